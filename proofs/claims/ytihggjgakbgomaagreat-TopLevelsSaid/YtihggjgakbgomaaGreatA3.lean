import Derived.Deep.Slices
import Derived.Test.YtihggjgakbgomaaGreatA1
import Derived.Test.YtihggjgakbgomaaGreatA2
namespace Go.Den
open Go
def HA(w h i:Nat):Nat->List (Nat×Nat)
 |0=>if i%w<w-1 then [(i,i+1),(i+1,i)] else []
 |_=>if i/w<h-1 then [(i,i+w),(i+w,i)] else []
def DW(w h i:Nat):List (Nat×Nat):=(List.range i).flatMap λi=>HA w h i 0++HA w h i 1
theorem qp:∀w:Fin 5,∀h:Fin 5,(DW w h (w*h)).length<=48/\(∀p∈DW w h (w*h),p.1<w.val*h.val/\p.2<w.val*h.val)/\∀v:Fin 17,((DW w h (w*h)).filter λp=>p.1==v.val).length<=4:=by decide+kernel
theorem qq(w h i:Nat):DW w h (i+1)=DW w h i++HA w h i 0++HA w h i 1:=by
 unfold DW;rw[List.range_succ,GK];simp[sL]
abbrev E3:=Int×Int×Int
def ftE(e:E3):Nat×Nat:=(e.1.toNat,e.2.1.toNat)
structure CA(w h:Nat)(L:List (Nat×Nat))(E:List E3):Prop where
 sub:(E.map ftE).Sublist L
 ok:∀e∈E,0<=e.1/\0<=e.2.1/\1<=e.2.2/\e.2.2<=40
theorem CA.nil(w h:Nat)(L:List (Nat×Nat)):CA w h L []:=⟨by simp,by simp⟩
theorem CA.RW{w h:Nat}{L M:List (Nat×Nat)}{E:List E3}(g:CA w h L E):CA w h (L++M) E:=⟨g.sub.trans (List.sublist_append_left L M),g.ok⟩
theorem CA.push{w h:Nat}{L:List (Nat×Nat)}{E:List E3}(g:CA w h L E){p:Nat×Nat}{x:Int}(h0:1<=x)(h1:x<=40):CA w h (L++[p]) (E++[((p.1:Int),(p.2:Int),x)]):=by
 refine⟨?_,λe he=>?_⟩
 ·rw[wQ];refine g.sub.append ?_;have:ftE ((p.1:Int),(p.2:Int),x)=p:=by simp[ftE]
  simp[this]
 ·rcases kE.1 he with he|he
  ·exact g.ok e he
  ·have:e=((p.1:Int),(p.2:Int),x):=by simpa using he
   subst this;exact⟨Int.natCast_nonneg _,Int.natCast_nonneg _,h0,h1⟩
structure BY(n k:Nat)(E:List E3):Prop where
 len:E.length<=48+k
 ok:∀e∈E,(0<=e.1/\e.1<n)/\(0<=e.2.1/\e.2.1<n)/\1<=e.2.2/\e.2.2<=40
 deg:∀v:Int,(E.filter λe=>decide (e.1=v)).length<=4+k
theorem CA.town{w h:Nat}(hw:w<5)(hh:h<5){E:List E3}(g:CA w h (DW w h (w*h)) E):BY (w*h) 0 E:=by
 obtain⟨f1,f2,f3⟩:(DW w h (w*h)).length<=48/\(∀p∈DW w h (w*h),p.1<w*h/\p.2<w*h)/\∀v:Fin 17,((DW w h (w*h)).filter λp=>p.1==v.val).length<=4:=qp ⟨w,hw⟩ ⟨h,hh⟩;have IU:∀e∈E,e.1<(w*h:Nat)/\e.2.1<(w*h:Nat):=λe he=>by
  have hm:=g.sub.subset (mD.2 ⟨e,he,rfl⟩);have h1:=f2 _ hm;have h2:=g.ok e he;unfold ftE at h1;simp only at h1;omega
 refine⟨?_,λe he=>?_,λv=>?_⟩
 ·have:=g.sub.length_le;rw[oH] at this;omega
 ·have h1:=g.ok e he;have h2:=IU e he;exact⟨⟨h1.1,h2.1⟩,⟨h1.2.1,h2.2⟩,h1.2.2⟩
 ·by_cases hv:0<=v/\v<17
  ·have h1:=(g.sub.filter λp=>p.1==v.toNat).length_le;have h2:((DW w h (w*h)).filter λp=>p.1==v.toNat).length<=4:=f3 ⟨v.toNat,aB⟩;have h3:(E.filter λe=>decide (e.1=v)).length=((E.map ftE).filter λp=>p.1==v.toNat).length:=by
    rw[List.filter_map,oH];congr 1;refine ly3 λe he=>?_;have h4:=g.ok e he;have h5:(e.1=v)↔(e.1.toNat=v.toNat):=aB;simp only[Function.comp,ftE]
    by_cases h6:e.1=v
    ·rw[decide_eq_true h6];simp[h6]
    ·rw[decide_eq_false h6];symm;simpa usingλh=>h6 (h5.2 h)
   omega
  ·have:(E.filter λe=>decide (e.1=v))=[]:=by
    rw[List.filter_eq_nil_iff];intro e he h1;have h2:=g.ok e he;have h3:=IU e he;have h4:e.1=v:=by simpa using h1
    have:w*h<=4*4:=RX aB aB;omega
   rw[this];simp
theorem BY.push{n k:Nat}{E:List E3}(h:BY n k E){e:E3}(he:(0<=e.1/\e.1<n)/\(0<=e.2.1/\e.2.1<n)/\1<=e.2.2/\e.2.2<=40):BY n (k+1) (E++[e]):=by
 refine⟨by rw[fJ];have:=h.len;simp;omega,λx hx=>?_,λv=>?_⟩
 ·rcases kE.1 hx with hx|hx
  ·exact h.ok x hx
  ·have:x=e:=by simpa using hx
   rw[this];exact he
 ·rw[VH,fJ];have h1:=h.deg v;have h2:=zL (λe=>decide (e.1=v)) [e];simp only[mE,RZ] at h2;omega
theorem BY.RW{n k j:Nat}{E:List E3}(h:BY n k E)(hj:k<=j):BY n j E:=⟨by have:=h.len;omega,h.ok,λv=>by have:=h.deg v;omega⟩
theorem BY.one{n:Nat}(hn:0<n):BY n 3 [(0,0,3)]:=by
 refine⟨by simp,λe he=>?_,λv=>iR (zL _ _) dN⟩;have:e=(0,0,3):=by simpa using he
 subst this;exact⟨⟨by simp,by simpa using hn⟩,⟨by simp,by simpa using hn⟩,by simp,by simp⟩
theorem Yr(p:E3->Bool):∀E:List E3,((List.range E.length).filter λi=>p (E.getD i (0,0,0))).length=(E.filter p).length
 | []=>rfl
 |e::E=>by
  have ih:=Yr p E;rw[mE,List.range_succ_eq_map,IX,List.filter_map];have h1:((λi=>p ((e::E).getD i (0,0,0))) ∘ Nat.succ)=λi=>p (E.getD i (0,0,0)):=by funext i;simp
  rw[h1];simp only[List.getD_cons_zero,IX];simp only[LR] at ih
  split<;>simp[ih]
theorem qx(p:E3->Bool)(E:List E3):((kL E.length).filter λi=>p (E.getD i.toNat (0,0,0))).length=(E.filter p).length:=by
 unfold kL;rw[List.filter_map,oH,<-Yr]
 rfl
structure HB(E:List E3)(a b:Nat)(B:List (Int×Int)):Prop where
 len:B.length<=7*a+((kL b).filter λi=>decide ((E.getD i.toNat (0,0,0)).1=(E.getD a (0,0,0)).2.1)).length
 ok:∀x∈B,(0<=x.1/\x.1<E.length)/\(0<=x.2/\x.2<E.length)/\(E.getD x.1.toNat (0,0,0)).2.1=(E.getD x.2.toNat (0,0,0)).1
 sO:B.Pairwise IZ
 lE:∀x∈B,IZ x ((a:Int),(b:Int))
theorem HB.skip{E:List E3}{a b:Nat}{B:List (Int×Int)}(h:HB E a b B):HB E a (b+1) B:=by
 refine⟨?_,h.ok,h.sO,λx hx=>?_⟩
 ·rw[xB,VH,fJ];have:=h.len;omega
 ·have:=h.lE x hx;unfold IZ at*;omega
theorem HB.push{E:List E3}{a b:Nat}{B:List (Int×Int)}(h:HB E a b B)(ha:a<E.length)(hb:b<E.length)(he:(E.getD a (0,0,0)).2.1=(E.getD b (0,0,0)).1):HB E a (b+1) (B++[((a:Int),(b:Int))]):=by
 refine⟨?_,λx hx=>?_,?_,λx hx=>?_⟩
 ·rw[xB,VH,fJ,fJ];have h1:([(b:Int)].filter λi=>decide ((E.getD i.toNat (0,0,0)).1=(E.getD a (0,0,0)).2.1))=[(b:Int)]:=by
   simp only[IX,dW,he,decide_true,if_true,List.filter_nil]
  rw[h1];have:=h.len;simp only[mE,RZ];omega
 ·rcases kE.1 hx with hx|hx
  ·exact h.ok x hx
  ·have:x=((a:Int),(b:Int)):=by simpa using hx
   subst this;exact⟨⟨aB,aB⟩,⟨aB,aB⟩,by simpa using he⟩
 ·rw[List.pairwise_append];refine⟨h.sO,by simp,λx hx y hy=>?_⟩;have:y=((a:Int),(b:Int)):=by simpa using hy
  subst this;exact h.lE x hx
 ·rcases kE.1 hx with hx|hx
  ·have:=h.lE x hx;unfold IZ at*;omega
  ·have:x=((a:Int),(b:Int)):=by simpa using hx
   subst this;unfold IZ;omega
theorem HB.next{n:Nat}{E:List E3}(hE:BY n 3 E){a:Nat}{B:List (Int×Int)}(h:HB E a E.length B):HB E (a+1) 0 B:=by
 refine⟨?_,h.ok,h.sO,λx hx=>?_⟩
 ·have h1:=h.len;have h2:=qx (λe=>decide (e.1=(E.getD a (0,0,0)).2.1)) E;rw[h2] at h1;have:=hE.deg (E.getD a (0,0,0)).2.1;have h3:((kL 0).filter λi=>decide ((E.getD i.toNat (0,0,0)).1=(E.getD (a+1) (0,0,0)).2.1)).length=0:=by simp[kL]
  omega
 ·have:=h.lE x hx;have:=(h.ok x hx).2.1.2;unfold IZ at*;omega
theorem town_ok{n:Nat}{N:List (Int×Int)}{E:List E3}{B:List (Int×Int)}(hn:1<=n/\n<=16)(hN:N.length=n)(hNo:∀p∈N,(0<=p.1/\p.1<=4095)/\0<=p.2/\p.2<=4095)(hE:BY n 3 E)(hE1:E≠[])(hB:HB E E.length 0 B):sS ⟨N,E,B⟩:=by
 have uB:0<E.length:=List.length_pos_iff.2 hE1;have hl:=hE.len;refine⟨⟨by show 1<=N.length;omega,by show N.length<=256;omega⟩,⟨uB,hl⟩,hNo,λe he=>?_,?_,λb hb=>?_,hB.sO⟩
 ·have:=hE.ok e he;show(0<=e.1/\e.1<(N.length:Nat))/\(0<=e.2.1/\e.2.1<(N.length:Nat))/\_;rw[hN];exact this
 ·have h1:=hB.len;have h3:((kL 0).filter λi=>decide ((E.getD i.toNat (0,0,0)).1=(E.getD E.length (0,0,0)).2.1)).length=0:=by simp[kL]
  show B.length<=1024;omega
 ·exact hB.ok b hb
end Go.Den
namespace Go.Den
open Go Go.ChangeShapes Go.WideShapes Go.ChangeAt Go.RowKit Go.Deep
section
def ZD(P:Program):Nat->TypeId->Nat->Bool
 |0,_,_=>false
 |d+1,t,i=>match P.underlying t with
  |some (.int .i64)=>Nat.beq i 0
  |some (.struct fs)=>fs.toList.any λf=>Nat.ble f.offset i && Nat.blt i (f.offset+P.cellsOf f.type) && ZD P d f.type (i-f.offset)
  |some (.array n e)=>Nat.blt 0 (P.cellsOf e) && Nat.blt (i/P.cellsOf e) n && ZD P d e (i%P.cellsOf e)
  |_=>false
def leaves64(P:Program)(t:TypeId)(n:Nat):Bool:=Ha (λi=>ZD P 5 t i) n
theorem mapM_each{α β:Type}{f:α->Option β}:∀{l:List α} {ys:List β},l.mapM f=some ys->∀x∈l,∃y,f x=some y
 | [],_,_,x,hx=>by cases hx
 |a::l,ys,h,x,hx=>by
  simp only[List.mapM_cons,Option.bind_eq_bind,Option.pure_def] at h;cases ha:f a with
  |none=>simp[ha] at h
  |some y=>
   cases hl:l.mapM f with
   |none=>simp[ha,hl] at h
   |some zs=>
    rcases jO.1 hx with e|hx
    ·subst e;exact⟨y,ha⟩
    ·exact mapM_each hl x hx
section
variable{H:Type}{aY:TypeId×Value->H}{P:Program}{w:aH}{nO:Nat}{spare:Nat->Bool}{held:Bool}
theorem NJ:∀(d:Nat) {fuel:Nat} {t:TypeId} {cs:List Value} {x:DataW H×List MemPlace} {i:Nat},ZD P d t i=true->DataW.trod aY P w nO spare held fuel t cs=some x->∃n:Int,cs[i]? =some (.int .i64 n)
 |0,_,_,_,_,_,h,_=>by simp[ZD] at h
 |d+1,0,_,_,_,_,_,hx=>by simp[DataW.trod] at hx
 |d+1,fuel+1,t,cs,x,i,h,hx=>by
  unfold ZD at h;cases hu:P.underlying t with
  |none=>rw[hu] at h;cases h
  |some u=>
   rw[hu] at h;cases u
   case int k=>
    cases k<;>try (cases h;done)
    obtain⟨n,hc,_,_⟩:=DataW.trod_int hu hx;have hi:i=0:=IY h;subst hi;exact⟨n,by rw[hc];rfl⟩
   case struct fs=>
    have QB:(if cs.length=P.cellsOf t then(fs.toList.mapM λf=>DataW.trod aY P w nO spare held fuel f.type ((cs.drop f.offset).take (P.cellsOf f.type))).map λxs=>(DataW.agg (xs.map (·.1)),xs.flatMap (·.2)) else none)=some x:=by
     rw[<-hx]
     conv=>rhs;unfold DataW.trod;rw[hu]
    split at QB
    ·simp only[List.any_eq_true,sV] at h;obtain⟨f,hf,⟨h1,h2⟩,h3⟩:=h;cases hm:(fs.toList.mapM λf=>DataW.trod aY P w nO spare held fuel f.type ((cs.drop f.offset).take (P.cellsOf f.type))) with
     |none=>rw[hm] at QB;cases QB
     |some ys=>
      obtain⟨y,hy⟩:=mapM_each hm f hf;obtain⟨n,hn⟩:=NJ d h3 hy;have l1:f.offset<=i:=Nat.le_of_ble_eq_true h1;have l2:i<f.offset+P.cellsOf f.type:=by simpa using h2
      rw[VJ aB,ly7,show f.offset+(i-f.offset)=i by omega] at hn;exact⟨n,hn⟩
    ·cases QB
   case array m e=>
    have QB:(if cs.length=P.cellsOf t then((List.range m).mapM λi=>DataW.trod aY P w nO spare held fuel e ((cs.drop (i*P.cellsOf e)).take (P.cellsOf e))).map λxs=>(DataW.agg (xs.map (·.1)),xs.flatMap (·.2)) else none)=some x:=by
     rw[<-hx]
     conv=>rhs;unfold DataW.trod;rw[hu]
    split at QB
    ·simp only[sV] at h;obtain⟨⟨h0,h1⟩,h3⟩:=h;have l0:0<P.cellsOf e:=by simpa using h0
     have l1:i/P.cellsOf e<m:=by simpa using h1
     cases hm:((List.range m).mapM λi=>DataW.trod aY P w nO spare held fuel e ((cs.drop (i*P.cellsOf e)).take (P.cellsOf e))) with
     |none=>rw[hm] at QB;cases QB
     |some ys=>obtain⟨y,hy⟩:=mapM_each hm (i/P.cellsOf e) (List.mem_range.2 l1);obtain⟨n,hn⟩:=NJ d h3 hy;rw[VJ (Nat.mod_lt _ l0),ly7,Nat.div_add_mod'] at hn;exact⟨n,hn⟩
    ·cases QB
   all_goals cases h
theorem arg_rows{t e:TypeId}{m b:Nat}{v:Value}{d:DataW H}{ps:List MemPlace}(ht:P.underlying t=some (.slice e))(hc:P.cellsOf e=m)(ud:leaves64 P e m=true)
  (ko:Value.okWide P w .any b t v) (h:DataW.Trod aY P w 0 (λ_=>true) true t v d ps):
  ∃(s:Sl) (dZ:List (List Int)),v=.slice s.b s.l s.c/\Rd w s m (λr=>r.map (Value.int .i64)) dZ/\(∀r∈dZ,r.length=m):=by
 obtain⟨a1,len,cap,rfl⟩:=okWide_slice ht ko;obtain⟨fuel,hf⟩:=h;rcases open_slice ht hf with⟨Vf,hx⟩|⟨a,len',cap',k,n,D,Pl,Vf,_,hl,hm,hk,_,hel⟩
 ·simp[Value.cells] at Vf;obtain⟨rfl,rfl,rfl⟩:=Vf;exact⟨aZ,[],rfl,Rd.nil _ _ _,by simp⟩
 ·simp[Value.cells] at Vf;obtain⟨rfl,rfl,rfl⟩:=Vf;have lT:k=cap:=by simpa using hk
  have each:∀i,i<len->∃r:List Int,r.length=m/\bQ w (a.add (i*m)) 0 (r.map (Value.int .i64)):=by
   intro i hi;obtain⟨cs,h1,h2⟩:=hel i aB;rw[hc] at h1;obtain⟨_,gD,wO⟩:=World.cells?_some h1;have hints:∀j,j<m->∃n:Int,cs[j]? =some (.int .i64 n):=λj hj=>NJ 5 (xL ud j hj) h2;have conv:∀(cs:List Value),(∀j,j<cs.length->∃n:Int,cs[j]? =some (.int .i64 n))->∃r:List Int,cs=r.map (Value.int .i64):=by
    intro cs
    induction cs with
    |nil=>intro _;exact⟨[],rfl⟩
    |cons c cs ih=>intro hh;obtain⟨n,hn⟩:=hh 0 dN;simp at hn;obtain⟨r,hr⟩:=ih λj hj=>hh (j+1) (by simpa using hj);exact⟨n::r,by rw[hn,hr];rfl⟩
   obtain⟨r,hr⟩:=conv cs λj hj=>hints j aB;refine⟨r,by rw[<-gD,hr];simp,?_⟩;rw[iB];intro j v hj;rw[<-hr] at hj;have hjm:j<m:=by have:=(eQ.1 hj).1;omega
   rw[gI,wO j hjm];exact hj
  obtain⟨dZ,hlr,Ns⟩:∃dZ:List (List Int),dZ.length=len/\∀i r,dZ[i]? =some r->r.length=m/\bQ w (a.add (i*m)) 0 (r.map (Value.int .i64)):=by
   have build:∀q,q<=len->∃dZ:List (List Int),dZ.length=q/\∀i r,dZ[i]? =some r->r.length=m/\bQ w (a.add (i*m)) 0 (r.map (Value.int .i64)):=by
    intro q
    induction q with
    |zero=>intro _;exact⟨[],rfl,by simp⟩
    |succ q ih=>
     intro hq;obtain⟨dZ,h1,h2⟩:=ih aB;obtain⟨r,h3,h4⟩:=each q aB;refine⟨dZ++[r],by simp[h1],λi r' hi=>?_⟩
     by_cases hiq:i<dZ.length
     ·rw[Fw hiq] at hi;exact h2 i r' hi
     ·rw[Fx aB] at hi;have:i-dZ.length=0:=by have:=(eQ.1 hi).1;simp at this;omega
      rw[this] at hi;simp at hi;subst hi;have:i=q:=aB;subst this;exact⟨h3,h4⟩
   exact build len (dL _)
  exact⟨⟨some a,len,cap⟩,dZ,rfl,⟨hlr.symm,hl,λi r hi=>⟨a,rfl,(Ns i r hi).2⟩⟩,λr hr=>by obtain⟨i,hi⟩:=pC.1 hr;exact(Ns i r hi).1⟩
end
theorem Rd.map{α β:Type}{w:aH}{s:Sl}{n:Nat}{e:α->List Value}{e':β->List Value}{xs:List α}(h:Rd w s n e xs)(f:α->β)(hf:∀x∈xs,e' (f x)=e x):Rd w s n e' (xs.map f):=by
 refine⟨by rw[oH];exact h.len,h.cap,λi y hy=>?_⟩;rw[oM] at hy;cases hx:xs[i]? with
 |none=>rw[hx] at hy;cases hy
 |some x=>rw[hx] at hy;cases hy;obtain⟨a,ha,hh⟩:=h.get i x hx;exact⟨a,ha,by rw[hf x (lD hx)];exact hh⟩
end
end Go.Den
namespace Go.Den
open Go Go.ChangeShapes Go.WideShapes Go.ChangeAt Go.RowKit Go.Deep
section
section
variable{H:Type}{aY:TypeId×Value->H}{P:Program}{w:aH}
end
end
end Go.Den
