import Derived.Test.YtihggjgakbgomaaGreatA1
import Derived.Test.YtihggjgakbgomaaGreatQ5
import Derived.Test.YtihggjgakbgomaaGreatF1
import Derived.Test.YtihggjgakbgomaaGreatA3
import Derived.Test.YtihggjgakbgomaaGreatQ2
import Derived.Test.YtihggjgakbgomaaGreatQ1
import Derived.Test.YtihggjgakbgomaaGreatF2
import Derived.Test.YtihggjgakbgomaaGreatQ4
namespace Go.Proofs.YtihggjgakbgomaaGreat
open Go Go.Den
section
theorem oq(xs:List (wF×Sl)):(xs.flatMap Cm).length=xs.length*3:=bI VT xs
theorem DelUn_i{s:Sl}{xs:List (wF×Sl)}{i:Nat}{w:aH}{Q:Sl->aH->Prop}(hs:dP w MS 3 Cm s xs)(hi:i<xs.length)(hb:xs.length<1099511627776)
  (hQ:∀s' w',dP w' MS 3 Cm s' (xs.take i++xs.drop (i+1))->aY (λk=>∃b,s.b=some b/\k=b.block) w w'->s'.b=s.b->Q s' w'):
  iD s (i:Int) ((i:Int)+1) w Q:=by
 unfold iD;have hl:=hs.len;have Rs:=hs.cap;have Rp:=hs.max;rcases hs.gN with⟨_,h0⟩|⟨g,cR,Lc,ho,fW⟩
 ·omega
 refine⟨⟨aB,aB⟩,⟨aB,by simp;omega⟩,⟨aB,aB⟩,?_⟩;refine aF (λh=>by simp at h;omega) (λ_=>?_);refine⟨⟨aB,aB⟩,⟨aB,aB⟩,?_⟩;have hd:aN w w.drew:=aY.drew (aY.refl _ w);have ti:Int.toNat (i:Int)=i:=rfl;have tj:Int.toNat ((i:Int)+1)=i+1:=rfl;rw[oV,ti,tj,Nat.sub_zero,Nat.sub_zero];have hvd:=hs.aL hd (λ_ _=>id);have Dq:=hvd.take (i:=i) aB;have Fe:=(hvd.rd VT).part (i:=i+1) (j:=s.l) (c:=s.c) aB aB aB aB;rw[List.take_of_length_le (by simp;omega)] at Fe;have LJ:(xs.take i).length+(xs.drop (i+1)).length=xs.length-1:=by simp;omega
 refine Ii EG VT Xo Dq Fe (by rw[LJ];omega) (by rw[LJ];omega) λr w1 hr hm Vp hrn QD=>?_;have Vs:=hr.len;rw[mH,LJ] at Vs;have Vu:=hr.cap;have tl:Int.toNat (s.l:Int)=s.l:=rfl;have tr:Int.toNat (r.l:Int)=r.l:=rfl;rw[tl,tr];obtain rfl:=QD (by rw[LJ];show _<=s.c;omega);have e1:i+(s.l-(i+1))=xs.length-1:=aB;simp only[e1] at hr Vs Vu tr ⊢;refine⟨⟨aB,aB⟩,⟨aB,aB⟩,?_⟩;rw[Lc,lR (show xs.length-1<s.c by omega)];rcases hr.gN with⟨h0,_⟩|⟨g',Xl,hbg',ho',QW⟩
 ·rw[Lc] at h0;cases h0
 have:g'=g:=by rw[Lc] at hbg';cases hbg';rfl
 subst this;have QN:((xs.take i++xs.drop (i+1)).flatMap Cm).length=(xs.length-1)*3:=by rw[oq,mH,LJ]
 have yD:((xs.take i++xs.drop (i+1)).flatMap Cm++Xl).length=s.c*3:=QW;have h4:xs.length*3<=s.c*3:=QB 3 aB;refine ZR EG (by simp[Value.oneCell']) ho' (by rw[yD];omega) λw2 zs hz Vq m2 _=>?_;have KU:s.l-(xs.length-1)=1:=aB;rw[KU] at hz Vq;rw[Ed QN] at Vq;refine hQ _ w2 ⟨by rw[mH,LJ],by show xs.length-1<=s.c;omega,Rp,.inr ⟨g',zs++((xs.take i++xs.drop (i+1)).flatMap Cm++Xl).drop ((xs.length-1)*3+1*3),rfl,by simpa using Vq,?_⟩⟩ ?_ Lc.symm
 ·show _=s.c*3
  simp only[mH,QN,List.length_drop,hz];rw[mH,QN] at yD;omega
 ·exact((aN.aL hd).tr hm).tr (m2.mono λk _ hk=>⟨_,Lc,hk⟩)
structure UZ(G:Gr)(B:Int)(n:Nat)(W:jF):Prop where
 v:W.v.Ok G B
 b0:0<=B
 len:W.ds.length=n/\1<=n/\n<=16
 ds:∀p∈W.ds,p.2.Ok B/\p.2.cG=W.v.cG
 gR:∀u∈W.gR,u.data.length<=3000/\(u.up=true->0<=u.d/\u.d<n)
 aT:∀e∈W.v.t.aT,e.aM<n
theorem WN{G:Gr}{B B':Int}{v:gW}(ok:v.Ok G B)(h:B<=B'):v.Ok G B':=⟨ok.cG,ok.dL,ok.u,ok.t,ok.eE,λe he=>by have:=ok.ch e he;exact⟨this.1,this.2.1,this.2.2.1,aB⟩,ok.yX,ok.Dv,ok.lost⟩
theorem UZ.mono{G:Gr}{B B':Int}{n:Nat}{W:jF}(h:UZ G B n W)(hB:B<=B'):UZ G B' n W:=⟨WN h.v hB,by have:=h.b0;omega,h.len,λp hp=>⟨(h.ds p hp).1.mono hB,(h.ds p hp).2⟩,h.gR,h.aT⟩
structure wK(N:BS)(G:Gr)(B:Int)(n:Nat)(ee a wa:Nat)(W:jF)(w:aH)(S:BS)(rh:Sl)(hs:List vB)(k:Nat)(W':jF)(w':aH)(S':BS):Prop where
 x:iI N ee a wa W' w' S'
 up:Up S S' w w'
 CU:Mh w.heap.size S' w' rh hs
 ok:UZ G (B+16) n W'
 cG:W'.v.cG=W.v.cG
 len:W'.gR.length<=W.gR.length+k
 dL:W'.v.dL<=W.v.dL+1
 hl:hs.length<=20
def Mm(G:Gr)(W:jF)(u:wF)(W':jF)(hs:List vB):Prop:=
 if u.up=true then∃v' ps,Bg G W.v u.d u.data v' ps hs/\W'=({W with v:=v'}:jF).add (ps.map Lg)
 else(¬(0<=u.d/\u.d<W.ds.length)/\W'=W/\hs=[])\/∃d dv pQ ds ms,W.ds[u.d.toNat]? =some (d,dv)/\0<=u.d/\Td dv u.data pQ ds ms/\W'=({W with ds:=W.ds.set u.d.toNat (d,pQ)}:jF).add (ds.map (Nj u.d))/\hs=ms.map λm=>⟨u.d,pQ.aK,false,m⟩
theorem Tk{N:BS}{lo:Nat}{S:BS}{w:aH}{r:Sl}{ps:List Pk}(h:rM lo S w r ps)(hN:∀k,N k->k<lo):zE eU 2 ePk Prod.snd (λk=>¬S k/\k<w.heap.size/\¬N k) w r ps:=(h.rd MN).wk λk h1 h2=>⟨h1.2,h2,λh=>by have:=hN k h;have:=h1.1;omega⟩
theorem Tj{N:BS}{lo:Nat}{S:BS}{w:aH}{r:Sl}{ps:List (List cH)}(h:RowQ lo S w r ps)(hN:∀k,N k->k<lo):Ge (λk=>¬S k/\k<w.heap.size/\¬N k) w r ps:=(h.rd lenD_q).wk λk h1 h2=>⟨h1.2,h2,λh=>by have:=hN k h;have:=h1.1;omega⟩
section
variable{N:BS}{W0 w:aH}{S:BS}{a wa n:Nat}{W:jF}{E:qQ}{G:Gr}{B:Int}
theorem TI{l:List wF}(ok:UZ G B n W)(h:∀u∈l,u.data.length<=3000/\(u.up=true->0<=u.d/\u.d<n)):UZ G B n (W.add l):=
 ⟨ok.v,ok.b0,ok.len,ok.ds,λu hu=>(jS.1 hu).elim (ok.gR u) (h u),ok.aT⟩
theorem xf{d:Int}{sl:Sl}{bs:List cH}{Q:Sl->aH->Prop}(h:iI N E.e a wa W w S)(hN:∀k,N k->k<w.heap.size)(hb:Bs W0 E G S w)(ok:UZ G B n W)(hB:B<=100000000000000)(hd:0<=d/\d<n)(DM:W.gR.length<=800000)(hr:Rd w sl 1 eU bs)(ho:BD sl S w)(hl:bs.length<=5000)
  (hQ:∀rh hs v' ps w' S',wK N G B n E.e a wa W w S rh hs (W.v.cG.cM+1) (({W with v:=v'}:jF).add (ps.map Lg)) w' S'->Bg G W.v d bs v' ps hs->Q rh w'):CS (some ⟨wa,0,none⟩) d sl w Q:=by
 unfold CS;obtain⟨S1,h1,vY,c0,dN⟩:=h.Ch;refine aA rfl (aE (k:=.ptr) (some ⟨a,0,none⟩) c0 ?_);refine VRecv_i h1 (hb.sub vY) ok.v ⟨ok.b0,hB⟩ hr (λb bY=>⟨λhk=>(ho b bY).1 (vY _ hk),(ho b bY).2⟩) hl λr rh ps hs v' w1 BC g=>?_;obtain⟨S2,h2,u2,e2⟩:=dN v' w1 BC g.Ch g.up;have CZ:=ok.v.cG.cM;have gl:=g.len;have rp:rM w.heap.size S2 w1 r ps:=g.row.cov e2;refine Tt h2 (Tk rp hN) (by show W.gR.length+_<=_;omega) λw3 S3 h3 u3=>?_;have okn:UZ G (B+16) n ({W with v:=v'}:jF):=⟨g.ok,by have:=ok.b0;omega,ok.len,λp hp=>⟨((ok.ds p hp).1).mono aB,((ok.ds p hp).2).trans g.ir.cG.symm⟩,ok.gR,λe he=>?_⟩
 ·refine hQ rh hs v' ps w3 S3 ⟨h3,u2.tr u3,(g.CU.cov e2).up u3,TI okn λu hu=>?_,g.ir.cG,by show(W.gR++_).length<=_;simp;omega,by show v'.dL<=_;rw[g.ir.dL];omega,g.hl⟩ g.rel
  obtain⟨p,hp,rfl⟩:=lN.1 hu;exact⟨g.yr p hp,λh=>by cases h⟩
 ·rcases g.ir.aT e he with⟨f,hf,hp⟩|hp
  ·rw[<-hp];exact ok.aT f hf
  ·omega
theorem arrive_i{u:wF}{sl:Sl}{Q:Sl->aH->Prop}(h:iI N E.e a wa W w S)(hN:∀k,N k->k<w.heap.size)(hb:Bs W0 E G S w)(ok:UZ G B n W)(hB:B<=100000000000000)(DM:W.gR.length<=800000)(hu:u.data.length<=3000/\(u.up=true->0<=u.d/\u.d<n))(hr:Rd w sl 1 eU u.data)(ho:BD sl S w)
  (hQ:∀rh hs W' w' S',wK N G B n E.e a wa W w S rh hs (W.v.cG.cM+1) W' w' S'->Mm G W u W' hs->Q rh w'):EJ (some ⟨wa,0,none⟩) (u.d,u.up,sl,()) w Q:=by
 unfold EJ;have lt0:=h.lt;refine cD (cs:=Cm (u,sl)) λw1 b1 k1 z1=>aE (k:=.bool) u.up (aP b1 rfl) ?_;have h1:=h.kp k1;refine aF (λVo=>?_) (λVo=>?_)
 ·refine aE (k:=.i) u.d (aP b1 rfl) (aE (k:=.slice) sl (aP b1 rfl) ?_)
  refine xf h1 (λk hk=>nM (hN k hk) k1.size) (hb.kp k1) ok hB (hu.2 Vo) DM (hr.aL k1 fN λ_ _=>id) (ho.kp k1) aB λrh hs v' ps w' S' g zC=>?_;exact hQ rh hs _ w' S' ⟨g.x,(Up.aO k1).tr g.up,g.CU.qN k1.size,g.ok,g.cG,g.len,g.dL,g.hl⟩ (by unfold Mm;rw[if_pos Vo];exact⟨v',ps,zC,rfl⟩)
 ·have hup':¬u.up=true:=by rw[Vo];simp
  refine aE (k:=.i) u.d (aP b1 rfl) ?_;have hn:=ok.len;have K1d:=k1.tr (bO w1);have h1d:=h.kp K1d;have b1d:=bF.dr b1;obtain⟨S1,rr,vY,c0,_⟩:=h1d.Ch;refine ZV h1 aB (λd dv h0 hi=>?_) (λuX=>?_)
  ·refine aA rfl (aE (k:=.ptr) (some ⟨a,0,none⟩) c0 (aE (k:=.slice) sl (aP b1d rfl) (Sw rr ⟨aP b1d rfl,?_⟩)))
   obtain⟨S2,hD,IT,dN⟩:=h1d.drv hi;have hm:=zN hi;have yu:=ok.ds _ hm;refine DRecv_i hD yu.1 ⟨ok.b0,hB⟩ (hr.aL K1d fN λ_ _=>id) (λb bY=>⟨λhk=>(ho b bY).1 (IT _ hk),by have:=(ho b bY).2;have:=K1d.size;omega⟩) aB λr rm ds ms pQ w5 S2' g hrm zC=>?_;obtain⟨S5,h5,u5,e5⟩:=dN pQ w5 S2' g.drv g.up;have CZ:=ok.v.cG.cM;have gl:=g.len;rw[yu.2] at gl;have rq:=Tj (N:=N) (g.row.cov e5) (λk hk=>nM (hN k hk) K1d.size);have rmm:zE eI 9 tN iJ.cJ (λk=>¬S5 k/\k<w5.heap.size/\w.heap.size<=k) w5 rm ms:=((hrm.cov e5).rd Gm).wk λk h1 h2=>⟨h1.2,h2,by have:=h1.1;have:=K1d.size;omega⟩;have lrm:=rmm.len;have zw1:w1.drew.heap.size=w1.heap.size:=rfl;have nS1:¬S w.heap.size:=λhs=>by have:=lt0 _ hs;omega
   have U5:Up S S5 w w5:=(Up.aO K1d).tr u5;have o5:cW w5 w.heap.size MS (Cm (u,sl)):=b1d.1.aL u5.m nS1;have Nt:=h5.lt;have z5:=u5.size;have Vr:ms.length<=20:=by
    obtain⟨g',e',_,hc⟩:=zC;rcases hc with⟨_,_,_,rfl⟩|⟨_,_,_,_,rfl⟩|⟨_,_,p,c,nU,gs,c',LV,lL,dK,Lb,YS,_,_,hF,Vr,_⟩
    ·simp
    ·simp
    ·have rf:=xC (yu.1.ch _ Lb).1 YS
     have h1:=hF.len;rw[Vr];unfold TK;rw[lD];have:=wD (λx:iJ×Int=>decide (x.2=0)) LV;omega
   refine bK (λc t w6=>∃(i:Nat) (rh:Sl),i<=ms.length/\c=ms.length-i/\t=(rh,(i:Int),())/\aN w5 w6/\Mh w.heap.size S5 w6 rh ((ms.take i).map λm=>⟨u.d,pQ.aK,false,m⟩)/\(∀b,rh.b=some b->w5.heap.size<=b.block)) ms.length
    ⟨0,bD,iF _,rfl,rfl,aY.refl _ _,eX.nil,λb bY=>(by cases bY)⟩ ?_
   rintro c t w6 ⟨i,rh,hi6,rfl,rfl,k6,q6,f6⟩ X hX;dsimp only;have h6:=h5.kp k6;have m6:=rmm.kp eMX_ne k6;have o6:=o5.aL k6 id;have z6:=k6.size;refine aJ (λcL=>?_) (λlK=>?_)
   ·have dF:i<ms.length:=aB
    have cU:=gU dF;have sD:=FW dF;generalize ms[i]=m at*;obtain⟨q,eu,hq,hh,CU,Fg⟩:=m6.get cU;rw[lJ,qM i aB];refine⟨⟨aB,cL⟩,aA hq (bJ (l:=ff) (GF (m,eu)) hh ?_)⟩;refine eZ (zs:=tN (⟨0,0,0,[],0,VU⟩,bD)) (vs:=tN (m,eu)) CE rfl (VS _) λw8 o8 k8 z8=>?_;have K8:=k8.tr (bO w8);have h8:=h6.kp K8;have o8d:=o8.aL (bO w8) id;have o6d:=o6.aL K8 id;have GH:({W with ds:=W.ds.set u.d.toNat (d,pQ)}:jF).ds[u.d.toNat]? =some (d,pQ):=by
     show(W.ds.set u.d.toNat (d,pQ))[u.d.toNat]? =_;rw[wC];have:=(kY.1 hi).1;simp[this]
    obtain⟨_,hD8,_,_⟩:=h8.drv GH;refine aE (k:=.i) u.d (dO o6d rfl) (bJ (l:=ff) (GF (m,eu)) (o8d.holds λj v hj=>by rw[pU];exact hj) (ym hD8 ⟨o8d.holds λj v hj=>by rw[pU];exact hj,dO o6d rfl,?_⟩));have z8d:=K8.size;refine eX.snoc' NW ub oneHd aB (q6.kp K8) (by simp;omega) aB (λk hk=>by have:=Nt k hk;omega) ⟨u.d,pQ.aK,false,m⟩ (sl:=eu) (CU.aL K8 dA λ_ _=>id) (λb bY=>⟨(Fg b bY).1.2.2,(Fg b bY).1.1,by have:=(Fg b bY).2;omega,λb' Rt e=>by have:=f6 b' Rt;have:=(Fg b bY).1.2.1;omega⟩) λrh' eY v10 YN nb10=>?_;refine hX _ _ _ aB ⟨i+1,rh',dF,rfl,rfl,(k6.tr K8).fresh YN λk ⟨b,bY,e⟩=>by rw[e];exact f6 b bY,by rw[sD,yA];exact v10,λb bY=>?_⟩;rcases nb10 b bY with⟨a',pE,e⟩|h
    ·rw[e];exact f6 a' pE
    ·omega
   ·have ei:i=ms.length:=aB
    subst ei;rw[pF] at q6;refine aE (k:=.i) u.d (dO o6 rfl) ?_;have e0:(u.d.toNat:Int)=u.d:=aB;refine sn h6 ((rq.kp LA k6).wk λk h1 h2=>⟨h1.1,h2,h1.2.2⟩) (by show W.gR.length+ds.length<=_;omega) λw8 S8 h8 u8=>?_;have okn:UZ G (B+16) n ({W with ds:=W.ds.set u.d.toNat (d,pQ)}:jF):=⟨WN ok.v aB,by have:=ok.b0;omega,⟨by show(W.ds.set _ _).length=n;rw[pR];exact ok.len.1,ok.len.2⟩,λp hp=>?_,ok.gR,ok.aT⟩
    ·refine hQ rh _ _ w8 S8 ⟨h8,(U5.tr (Up.aO k6)).tr u8,q6.up u8,TI okn λx hx=>?_,rfl,by show(W.gR++_).length<=_;simp;omega,by show W.v.dL<=_;omega,by rw[lD];exact Vr⟩ ?_
     ·obtain⟨bb,Aq,rfl⟩:=lN.1 hx
      have GJ:=(kY.1 hi).1;exact⟨g.yr bb Aq,λ_=>⟨h0,by show u.d<n;omega⟩⟩
     ·unfold Mm
      rw[if_neg hup'];exact .inr ⟨d,dv,pQ,ds,ms,hi,h0,zC,rfl,rfl⟩
    ·rcases List.mem_or_eq_of_mem_set hp with hp|rfl
     ·exact⟨(ok.ds p hp).1.mono aB,(ok.ds p hp).2⟩
     ·exact⟨g.ok,g.cG.trans yu.2⟩
  ·refine aA rfl (aE (k:=.ptr) (some ⟨a,0,none⟩) c0 (aE (k:=.slice) sl (aP b1d rfl) (Sw rr ⟨aP b1d rfl,?_⟩)))
   refine qu (hr.aL K1d fN λ_ _=>id) aB λw5 k5=>?_;have b5:=bF.kp b1d k5;refine bK (λc t w6=>c=0/\t=(bD,(0:Int),())/\w6=w5) 0 ⟨rfl,rfl,rfl⟩ ?_;rintro c t w6 ⟨rfl,rfl,rfl⟩ X hX;dsimp only;refine aJ (λcL=>by simp at cL) (λ_=>aE (k:=.i) u.d (aP b5 rfl) ?_);have h5:=h1d.kp k5;refine sn (bs:=[]) (l:=bD) h5 ⟨[],rfl,Rd.nil _ _ _,λb bY=>(by cases bY),λx hx=>by cases hx⟩ (by simp;omega) λw8 S8 h8 u8=>?_;have e:W.add (([]:List (List cH)).map (Nj u.d))=W:=by unfold jF.add;simp
   rw[e] at h8;refine hQ _ [] W w8 S8 ⟨h8,(Up.aO (K1d.tr k5)).tr u8,eX.nil,ok.mono aB,rfl,aB,aB,iF _⟩ ?_;unfold Mm;rw[if_neg hup'];exact .inl ⟨uX,rfl,rfl⟩
end
end
section
structure IV where
 kind:Int
 d:Int
 n:Int
 m:Int
 Wc:List cH
abbrev rz(x:IV×Sl):List Value:=[aD x.1.kind,aD x.1.d,aD x.1.n,aD x.1.m,sv x.2]
abbrev kEv:List CK:=[.i,.i,.i,.i,.slice]
abbrev Rg(x:IV×Sl):Int×Int×Int×Int×Sl×Unit:=(x.1.kind,x.1.d,x.1.n,x.1.m,x.2,())
theorem uc:∀x:IV×Sl,(rz x).length=5:=λ_=>rfl
theorem oneEv:∀x:IV×Sl,∀u∈rz x,u.oneCell'=true:=by intro x u hu;simp at hu;rcases hu with rfl|rfl|rfl|rfl|rfl<;>rfl
theorem eEv_ne(x:IV×Sl):rz x≠[]:=by simp
def Fv(n:Int)(l:Nat):Nat:=(Int.tmod (Int.tmod n l+l) l).toNat
theorem idxB_lt{n:Int}{l:Nat}(hl:0<l)(hm:l<=1000000):Fv n l<l/\Int.tmod (aQ (Int.tmod n (l:Int)+(l:Int))) (l:Int)=((Fv n l:Nat):Int):=by
 have h1:(Int.tmod n (l:Int)).natAbs=n.natAbs%l:=by rw[Int.natAbs_tmod];rfl
 have h2:=Nat.mod_lt n.natAbs hl;rw[<-h1] at h2;have h3:0<=Int.tmod n (l:Int)+l:=aB;have h4:=Int.tmod_nonneg (b:=(l:Int)) h3;have h5:=Int.tmod_lt_of_pos (Int.tmod n (l:Int)+l) (show(0:Int)<l by omega);rw[gV aB aB];unfold Fv;exact⟨aB,aB⟩
def jF.rem(W:jF)(i:Nat):jF:={W with gR:=W.gR.take i++W.gR.drop (i+1)}
def BetR(G:Gr)(W:jF)(ev:IV)(W':jF)(hs:List vB):Prop:=
 (W.gR=[]/\W'=W/\hs=[])\/∃u,W.gR[Fv ev.n W.gR.length]? =some u/\if ev.kind=3 then W'=W.add [u]/\hs=[] else if ev.kind=2 then W'=W.rem (Fv ev.n W.gR.length)/\hs=[] else Mm G (W.rem (Fv ev.n W.gR.length)) u W' hs
section
variable{N:BS}{W0 w:aH}{S:BS}{a wa n:Nat}{W:jF}{E:qQ}{G:Gr}{B:Int}
theorem wK.same(h:iI N E.e a wa W w S)(ok:UZ G B n W){w':aH}(k:aN w w')(c:Nat):wK N G B n E.e a wa W w S bD [] c W w' S:=
 ⟨h.kp k,Up.aO k,eX.nil,ok.mono aB,rfl,aB,aB,iF _⟩
theorem aA7{ev:IV}{sl:Sl}{Q:Sl->aH->Prop}(h:iI N E.e a wa W w S)(hN:∀k,N k->k<w.heap.size)(hb:Bs W0 E G S w)(ok:UZ G B n W)(hB:B<=100000000000000)(DM:W.gR.length<=800000)
  (hQ:∀rh hs W' w' S',wK N G B n E.e a wa W w S rh hs (W.v.cG.cM+1) W' w' S'->BetR G W ev W' hs->Q rh w'):zT (some ⟨wa,0,none⟩) (Rg (ev,sl)) w Q:=by
 unfold zT;have lt0:=h.lt;refine cD (cs:=rz (ev,sl)) λw1 b1 k1 z1=>aA rfl ?_;have h1:=h.kp k1;obtain⟨wL,c2,lb,rL,xs,An,Wh,fi⟩:=h1.OW;refine aE (k:=.slice) wL c2 (aF (λh0=>?_) (λh0=>?_))
 ·have hl:W.gR.length=0:=by simp at h0;omega
  exact hQ _ [] W w1 S (wK.same h ok k1 _) (.inl ⟨Ct hl,rfl,rfl⟩)
 have hl:0<W.gR.length:=by simp at h0;omega
 obtain⟨hi,hix⟩:=idxB_lt (n:=ev.n) (l:=wL.l) aB aB;refine aE (k:=.i) ev.n (aP b1 rfl) ⟨aB,aB,aA rfl (aE (k:=.slice) wL c2 ?_)⟩;rw[hix,lJ];have xl:xs.length=W.gR.length:=by rw[<-An,lD]
 obtain⟨i,hie⟩:∃i,i=Fv ev.n W.gR.length:=⟨_,rfl⟩;have hie2:Fv ev.n wL.l=i:=by rw[hie,lb]
 rw[hie2] at hi ⊢;have hgx:=gU (show i<xs.length by omega);generalize xs[i]=y at*;obtain⟨u,slu⟩:=y;have hgu:W.gR[i]? =some u:=by rw[<-An,mY,hgx];rfl
 have fP:=zN hgx;have hu:=ok.gR u (zN hgu);obtain⟨hru,hou⟩:=fi _ fP;obtain⟨_,_,_,⟨S01,S02,BI,⟨_,_,_,⟨_,_,_,hv,_⟩,_⟩,_⟩,_⟩:=id Wh;obtain⟨q,hq,hh⟩:=(hv.1.rd VT).get i _ hgx;refine⟨⟨aB,aB⟩,aA hq (bJ (l:=[.i,.bool,.slice]) (u.d,u.up,slu,()) hh ?_)⟩;refine eZ (zs:=Cm (⟨0,false,[]⟩,bD)) (vs:=Cm (u,slu)) Jb rfl (Xo _) λw3 o3 k3 z3=>?_;have b3:=bF.kp b1 k3;have K3:=k1.tr k3;refine aE (k:=.i) ev.kind (aP b3 rfl) (aF (λhk=>?_) (λhk=>?_))
 ·have ri:ev.kind=3:=by simpa using hk
  have kd:=k3.tr (bO w3);have Lk:=o3.aL (bO w3) id;have c23:=kd.cell c2 id;refine aA rfl (aE (k:=.slice) wL c23 (aE (k:=.i) u.d (dO Lk rfl) (aE (k:=.bool) u.up (dO Lk rfl) (aE (k:=.slice) slu (dO Lk rfl) ?_))));refine vJ (hru.aL kd fN λ_ _=>id) (show u.data.length<=1000000 by omega) λr w4 S4 _ k4 _ rd4 f4=>?_;have o4:=Lk.aL k4 id;have c24:=k4.cell c23 id;refine⟨dO o4 rfl,dO o4 rfl,c24,?_⟩;refine cD (cs:=Cm (u,r)) λw5 b5 k5 z5=>⟨k5.cell c24 id,?_⟩;have K5:=kd.tr (k4.tr k5);have zz:=kd.size;have bd:=bF.gI Wh;refine Ih (u:=u) (sl:=r) (bF.kp Wh K5) (OS fi (Up.aO K5)) b5.1 ((bF.kp rd4 k5).1) ⟨λb bY=>⟨λhs=>by have:=bd _ hs;have:=f4 b bY;omega,(bF.kp rd4 k5).2.2.1 b bY⟩,λb bY hn=>by have:=hN _ hn;have:=f4 b bY;have:=k1.size;omega⟩ aB λw8 S8 h8 u8=>hQ _ [] (W.add [u]) w8 S8 ⟨by
    have e2:(⟨W.v,W.ds,(xs++[(u,r)]).map (·.1),W.row⟩:jF)=W.add [u]:=by unfold jF.add;rw[yA,An];rfl
    rw[e2] at h8;exact h8,((Up.aO (k1.tr K5)).tr u8),eX.nil,TI (ok.mono aB) λx hx=>by rw[kZ.1 hx];exact hu,rfl,by show(W.gR++[u]).length<=_;rw[mH,List.length_singleton];omega,by show W.v.dL<=_;omega,iF _⟩ (.inr ⟨u,by rw[<-hie];exact hgu,by rw[if_pos ri];exact⟨rfl,rfl⟩⟩)
 ·have ri:¬ev.kind=3:=by simpa using hk
  have h3:=bF.kp Wh k3;have v3:=hv.1.aL k3 λ_ _=>id;refine aA rfl (aE (k:=.slice) wL (k3.cell c2 id) ?_);rw[gV aB aB];refine DelUn_i v3 aB aB λs8 w8 v8 m8 hs8=>aA rfl ?_;have hBL:∀k,BL s8 k->BL wL k:=λk ⟨b,bY,e⟩=>⟨b,hs8.symm.trans bY,e⟩;have ou3:=OS fi (Up.aO (S:=S) k3);refine yc (YW:=s8) (SV':=λk=>BL s8 k) h3 m8 (λk hk=>hk) ⟨v8,λk=>Iff.rfl⟩ (λk hk=>.inl (hBL k hk)) λw9 S9 h9 u9 m9=>?_;have e2:(⟨W.v,W.ds,(xs.take i++xs.drop (i+1)).map (·.1),W.row⟩:jF)=W.rem i:=by unfold jF.rem;rw[yA,List.map_take,List.map_drop,An]
  have h9':iI N E.e a wa (W.rem i) w9 S9:=by
   rw[<-e2];exact⟨s8,_,rfl,h9,OS (λx hx=>ou3 x ((jS.1 hx).elim List.mem_of_mem_take List.mem_of_mem_drop)) u9⟩
  have U9:Up S S9 w w9:=(Up.aO K3).tr u9;have okr:UZ G B n (W.rem i):=⟨ok.v,ok.b0,ok.len,ok.ds,λx hx=>ok.gR x ((jS.1 hx).elim List.mem_of_mem_take List.mem_of_mem_drop),ok.aT⟩;have lr:(W.rem i).gR.length+1=W.gR.length:=by show(W.gR.take i++W.gR.drop (i+1)).length+1=_;simp;omega
  have cK:w9.cell? ((⟨w.heap.size,0,none⟩:Addr).add 0)=some (aD ev.kind):=by
   have:=(b3.1).aL u9.m (λhs=>by have:=lt0 _ hs;omega);exact dO this rfl
  refine aE (k:=.i) ev.kind cK (aF (λDL=>?_) (λDL=>?_))
  ·have hk2':ev.kind=2:=by simpa using DL
   exact hQ _ [] (W.rem i) w9 S9 ⟨h9',U9,eX.nil,okr.mono aB,rfl,aB,by show W.v.dL<=_;omega,iF _⟩ (.inr ⟨u,by rw[<-hie];exact hgu,by rw[if_neg ri,if_pos hk2',<-hie];exact⟨rfl,rfl⟩⟩)
  ·have hk2':¬ev.kind=2:=by simpa using DL
   have o9:=o3.aL u9.m (λhs=>by have:=lt0 _ hs;have:=k1.size;omega);have ho3:=ou3 _ fP;refine bJ (l:=[.i,.bool,.slice]) (u.d,u.up,slu,()) (o9.holds λj v hj=>by rw[pU];exact hj) ?_;refine arrive_i h9' (λk hk=>nM (hN k hk) U9.size) (hb.up U9) okr hB aB hu (ho3.2.rd u9 ho3.1 fN) (ho3.2.up u9).o λrh hs W' w' S' g zC=>?_;exact hQ rh hs W' w' S' ⟨g.x,U9.tr g.up,g.CU.qN U9.size,g.ok,g.cG,by have:=g.len;have e:(W.rem i).v=W.v:=rfl;rw[e] at this;omega,g.dL,g.hl⟩ (.inr ⟨u,by rw[<-hie];exact hgu,by rw[if_neg ri,if_neg hk2',<-hie];exact zC⟩)
end
end
section
def DrvsR(G:Gr)(W:jF)(ev:IV)(W':jF)(hs:List vB):Prop:=0<=ev.d/\ev.d<W.ds.length->
 (ev.kind=7->∃d dv pQ ds,W.ds[ev.d.toNat]? =some (d,dv)/\ZG dv ev.m ev.n pQ ds/\W'=({W with ds:=W.ds.set ev.d.toNat (d,pQ)}:jF).add (ds.map (Nj ev.d))/\hs=[])/\
 (ev.kind=11->∃v' ps,Bg G W.v ev.d ev.Wc v' ps hs/\W'=({W with v:=v'}:jF).add (ps.map Lg))
structure TickV(v v':gW)(ps:List Pk):Prop where
 cG:v'.cG=v.cG
 dL:v'.dL=v.dL+1
 u:v'.u=SJ (v.dL+1) v.u (jD 0 v.u)
 aT:∀f∈v'.t.aT,f∈v.t.aT
 q:Tb v->(VG (v.dL+1) (jD 0 v.u)=[]\/v.t.aT=[])->v'.t.aT=v.t.aT.filter (λe=>!Cw v e)/\v'.t.gr=v.t.gr/\F2 (λe p=>Wn (e.aM:Int) ⟨e.aK,3,0,0,3,[]⟩ p) (v.t.aT.filter λe=>Cw v e) ps/\(∀e∈v.t.aT,iq (v.ch e.aM) (v'.ch e.aM))/\v'.yX=v.yX/\∀k,(v'.lf k).getD (false:Bool)=false
def ux(W W':jF):Prop:=∃ps ups,TickV W.v W'.v ps/\W'.gR=W.gR++ps.map Lg++ups/\W'.ds.length=W.ds.length/\(∀(i:Nat) d dv,W.ds[i]? =some (d,dv)->∃pQ ds,W'.ds[i]? =some (d,pQ)/\FL dv pQ ds)/\((∀(i:Nat) d dv pQ ds,W.ds[i]? =some (d,dv)->FL dv pQ ds->ds=[])->ups=[])
section
variable{N:BS}{W0 w:aH}{S:BS}{a wa n:Nat}{W:jF}{E:qQ}{G:Gr}{B:Int}
theorem drv_sent{i:Nat}{d:Nat}{dv pQ:yY}{w':aH}{S1 S2':BS}{r:Sl}{ds:List (List cH)}{Q:aH->Prop}(h:iI N E.e a wa W w S)(hi:W.ds[i]? =some (d,dv))(ok:UZ G B n W)(DM:W.gR.length<=800000)(hN:∀k,N k->k<w.heap.size)
  (dN:∀pQ w' BC,wP d pQ w' BC->Up S1 BC w w'->∃S',iI N E.e a wa {W with ds:=W.ds.set i (d,pQ)} w' S'/\Up S S' w w'/\∀k,S' k->BC k\/k<w.heap.size) (g:Mk B d dv w S1 r ds pQ w' S2')
  (hQ:∀w2 S3,iI N E.e a wa (({W with ds:=W.ds.set i (d,pQ)}:jF).add (ds.map (Nj (i:Int)))) w2 S3->Up S S3 w w2->UZ G (B+16) n (({W with ds:=W.ds.set i (d,pQ)}:jF).add (ds.map (Nj (i:Int))))->ds.length<=W.v.cG.cM+1->Q w2):CM (some ⟨wa,0,none⟩) (i:Int) r w' Q:=by
 obtain⟨S2,h2,u2,e2⟩:=dN pQ w' S2' g.drv g.up;have yu:=ok.ds _ (zN hi);have gl:=g.len;rw[yu.2] at gl;have CZ:=ok.v.cG.cM;refine sn h2 (Tj (g.row.cov e2) hN) (by show W.gR.length+_<=_;omega) λw4 S4 h4 u4=>?_;have cL:=(kY.1 hi).1;have hln:=ok.len;refine hQ w4 S4 h4 (u2.tr u4) (TI ⟨WN ok.v aB,by have:=ok.b0;omega,⟨by show(W.ds.set _ _).length=n;rw[pR];exact ok.len.1,ok.len.2⟩,λp hp=>?_,ok.gR,ok.aT⟩ λx hx=>?_) gl
 ·rcases List.mem_or_eq_of_mem_set hp with hp|rfl
  ·exact⟨(ok.ds p hp).1.mono aB,(ok.ds p hp).2⟩
  ·exact⟨g.ok,g.cG.trans yu.2⟩
 ·obtain⟨bb,Aq,rfl⟩:=lN.1 hx
  exact⟨g.yr bb Aq,λ_=>⟨by show(0:Int)<=(i:Int);omega,by show(i:Int)<n;omega⟩⟩
theorem tick_i{Q:aH->Prop}(h:iI N E.e a wa W w S)(hN:∀k,N k->k<w.heap.size)(hb:Bs W0 E G S w)(ok:UZ G B n W)(hB:B<=1000000000)(DM:W.gR.length<=800000)(LK:W.v.dL<1000000000)
  (hQ:∀W' w' S',wK N G B n E.e a wa W w S bD [] (W.v.cG.oI*(2*W.v.cG.cM+1)+n*(W.v.cG.cM+1)) W' w' S'->ux W W'->Q w'):HV (some ⟨wa,0,none⟩) w Q:=by
 unfold HV;have hn:=ok.len;have CZ:=ok.v.cG.cM;have hsess:=ok.v.cG.oI;obtain⟨S1,rr,vY,c0,dN⟩:=h.Ch;refine aA rfl (aE (k:=.ptr) (some ⟨a,0,none⟩) c0 (VTick_i rr (hb.sub vY) ok.v LK λr ps v' w1 BC g=>?_));obtain⟨S2,h2,u2,e2⟩:=dN v' w1 BC g.Ch g.up;have lw:W.v.cG.oI*(2*W.v.cG.cM+1)<=16*33:=JA hsess.2 aB;have gl:=g.len;refine Tt h2 (Tk (g.row.cov e2) hN) (by show W.gR.length+_<=_;omega) λw3 S3 h3 u3=>?_;have U3:=u2.tr u3;have gh:UZ G B n (({W with v:=v'}:jF).add (ps.map Lg)):=TI ⟨g.ok,ok.b0,ok.len,λp hp=>⟨(ok.ds p hp).1,((ok.ds p hp).2).trans g.cG.symm⟩,ok.gR,λe he=>ok.aT e (g.aT e he)⟩ λx hx=>by
  obtain⟨p,hp,rfl⟩:=lN.1 hx;exact⟨g.yr p hp,λh=>by cases h⟩
 have tv:TickV W.v v' ps:=⟨g.cG,g.dL,g.u,g.aT,g.q⟩;obtain⟨c1,Xu⟩:=h3.rowAt;refine aA rfl (aE (k:=.slice) W.row c1 ?_);have ll:=Xu.len;rw[lD] at ll;have ldl:W.row.l=n:=ll.trans hn.1;refine bK (λc t w5=>∃(i:Nat) (W5:jF) (S5:BS) (ups:List wF),i<=n/\c=n-i/\t=((i:Int),())/\iI N E.e a wa W5 w5 S5/\Up S S5 w w5/\UZ G B n W5/\W5.v=v'/\W5.row=W.row/\W5.gR=W.gR++ps.map Lg++ups/\ups.length<=i*(W.v.cG.cM+1)/\(∀(j:Nat) d dv,W.ds[j]? =some (d,dv)->if j<i then∃pQ ds,W5.ds[j]? =some (d,pQ)/\FL dv pQ ds else W5.ds[j]? =some (d,dv))/\((∀(i:Nat) d dv pQ ds,W.ds[i]? =some (d,dv)->FL dv pQ ds->ds=[])->ups=[])) n
  ⟨0,_,S3,[],iF _,rfl,rfl,h3,U3,gh,rfl,rfl,by show W.gR++ps.map Lg=_;rw[sG],by simp,λj d dv hj=>(by rw[if_neg aB];exact hj),λ_=>rfl⟩ ?_
 rintro c t w5 ⟨i,W5,S5,ups,hi,rfl,rfl,h5,u5,LR,qz,Bb,uo,hul,hds5,hq5⟩ X hX;dsimp only;have iw:i*(W.v.cG.cM+1)<=16*17:=JA aB aB;have hpl:ps.length<=528:=aB;refine aJ (λcL=>?_) (λlK=>?_)
 ·have dF:i<n:=aB
  have hiw:i<W.ds.length:=aB;obtain⟨⟨d,dv⟩,Dt⟩:∃p,W.ds[i]? =some p:=⟨_,gU hiw⟩;have hg5:W5.ds[i]? =some (d,dv):=by have:=hds5 i d dv Dt;rw[if_neg aB] at this;exact this
  obtain⟨_,hrd5⟩:=h5.rowAt;rw[Bb] at hrd5;obtain⟨q,hq,cq⟩:=cQ (k:=.ptr) (e:=λx=>x) hrd5 (show(RY W5.ds)[i]? =some (some ⟨d,0,none⟩) by rw[mY,hg5];rfl);obtain⟨S6,hS6,Qw,c6,_⟩:=h5.Ch;rw[lJ,qM i aB];refine⟨⟨aB,cL⟩,aA hq (aE (k:=.ptr) (some ⟨d,0,none⟩) cq (aA rfl (aE (k:=.ptr) (some ⟨a,0,none⟩) c6 (Sw hS6 ?_))))⟩;obtain⟨S7,hD,hs7,back7⟩:=h5.drv hg5;have yu:=LR.ds _ (zN hg5);refine DTick_i hD yu.1 ok.b0 λr ds pQ w7 S7' gd okB zC=>?_;have hl5:W5.gR.length<=801000:=by rw[uo];simp;omega
  obtain⟨S8,h8,u8,e8⟩:=back7 pQ w7 S7' gd.drv gd.up;have gdl:=gd.len;rw[yu.2,qz,g.cG] at gdl;refine sn h8 (Tj (gd.row.cov e8) λk hk=>nM (hN k hk) u5.size) (by show W5.gR.length+_<=_;omega) λw9 S9 h9 u9=>?_;have hlt5:=(kY.1 hg5).1;refine hX _ _ _ aB ⟨i+1,_,S9,ups++ds.map (Nj (i:Int)),dF,rfl,rfl,h9,u5.tr (u8.tr u9),TI ⟨LR.v,LR.b0,⟨by show(W5.ds.set _ _).length=n;rw[pR];exact LR.len.1,LR.len.2⟩,λp hp=>?_,LR.gR,LR.aT⟩ λx hx=>?_,qz,Bb,by show W5.gR++_=_;rw[uo,sH],by rw[mH,lD,Nat.add_mul,Nat.one_mul];omega,λj d2 dv2 hj=>?_,λoF=>?_⟩
  ·rcases List.mem_or_eq_of_mem_set hp with hp|rfl
   ·exact LR.ds p hp
   ·exact⟨okB,gd.cG.trans yu.2⟩
  ·obtain⟨bb,Aq,rfl⟩:=lN.1 hx
   exact⟨gd.yr bb Aq,λ_=>⟨by show(0:Int)<=(i:Int);omega,by show(i:Int)<n;omega⟩⟩
  ·by_cases CV:j=i
   ·subst CV
    rw[Dt] at hj;cases hj;rw[if_pos aB];refine⟨pQ,ds,?_,zC⟩;show(W5.ds.set j (d,pQ))[j]? =_;rw[wC];simp[hlt5]
   ·have h0:=hds5 j d2 dv2 hj
    have GH:(({W5 with ds:=W5.ds.set i (d,pQ)}:jF).add (ds.map (Nj (i:Int)))).ds[j]? =W5.ds[j]?:=by
     show(W5.ds.set i (d,pQ))[j]? =_;rw[wC,if_neg (λh=>CV h.symm)]
    rw[GH]
    by_cases GJ:j<i
    ·rw[if_pos GJ] at h0;rw[if_pos aB];exact h0
    ·rw[if_neg GJ] at h0;rw[if_neg aB];exact h0
  ·rw[hq5 oF,oF i d dv pQ ds Dt zC];rfl
 ·have ei:i=n:=aB
  subst ei;refine hQ W5 w5 S5 ⟨h5,u5,eX.nil,LR.mono aB,by rw[qz];exact g.cG,by rw[uo];simp;omega,by rw[qz,g.dL];omega,iF _⟩ ⟨ps,ups,by rw[qz];exact tv,uo,by rw[LR.len.1,hn.1],λj d dv hj=>?_,hq5⟩;have YH:=(kY.1 hj).1;have:=hds5 j d dv hj;rw[if_pos aB] at this;exact this
end
end
section
def ChgR_q(v v1:gW)(W W':jF)(hs:List vB):Prop:=∃v' ps,rZ v1 v'/\(v.t.aT=[]->v'=v1/\ps=[])/\W'=({W with v:=v'}:jF).add (ps.map Lg)/\hs=[]
def JK(G:Gr)(W:jF)(ev:IV)(W':jF)(hs:List vB):Prop:=
 ((ev.kind=1\/ev.kind=2\/ev.kind=3)->BetR G W ev W' hs)/\(ev.kind=4->ux W W'/\hs=[])/\(ev.kind=5->ChgR_q W.v (W.v.Lr (W.v.ZF ev.n ev.m)) W W' hs)/\
 ((ev.kind=7\/ev.kind=11)->DrvsR G W ev W' hs)
def zI(c:wQ)(n:Nat):Nat:=c.oI*(2*c.cM+2)+n*(2*c.cM+1)
theorem Yr{c:wQ}{n:Nat}(ok:c.Ok)(hn:1<=n):c.cM+1<=zI c n/\c.oI*c.cM<=zI c n/\c.oI*(2*c.cM+1)+n*(c.cM+1)<=zI c n:=by
 unfold zI;have h1:c.oI*(2*c.cM+2)=c.oI*(2*c.cM+1)+c.oI:=by rw[show 2*c.cM+2=2*c.cM+1+1 from rfl,Nat.mul_add,Nat.mul_one]
 have h2:n*(2*c.cM+1)=n*(c.cM+1)+n*c.cM:=by rw[<-Nat.mul_add];congr 1;omega
 have h3:1*(c.cM+1)<=n*(c.cM+1):=QB _ hn;have h4:c.oI*(2*c.cM+1)=c.oI*c.cM+c.oI*(c.cM+1):=by rw[<-Nat.mul_add];congr 1;omega
 omega
section
variable{N:BS}{W0 w:aH}{S:BS}{a wa n:Nat}{W:jF}{E:qQ}{G:Gr}{B:Int}
theorem wK.RZ{rh:Sl}{hs:List vB}{k k':Nat}{W':jF}{w':aH}{S':BS}(g:wK N G B n E.e a wa W w S rh hs k W' w' S')(h:k<=k'):wK N G B n E.e a wa W w S rh hs k' W' w' S':=⟨g.x,g.up,g.CU,g.ok,g.cG,by have:=g.len;omega,g.dL,g.hl⟩
theorem srv_sent{v1 v':gW}{w1:aH}{S1 BC:BS}{r:Sl}{ps:List Pk}{Q:aH->Prop}(h:iI N E.e a wa W w S)(ok:UZ G B n W)(DM:W.gR.length<=800000)(hN:∀k,N k->k<w.heap.size)
  (dN:∀v' w' BC,gD E.e a v' w' BC->Up S1 BC w w'->∃S',iI N E.e a wa {W with v:=v'} w' S'/\Up S S' w w'/\∀k,S' k->BC k\/k<w.heap.size) (g:ChgS G B E.e a W.v v1 w S1 r ps v' w1 BC) (Dq:v1.cG=W.v.cG/\v1.t=W.v.t/\v1.dL=W.v.dL)
  (hQ:∀w2 S3,wK N G B n E.e a wa W w S bD [] (zI W.v.cG n) (({W with v:=v'}:jF).add (ps.map Lg)) w2 S3->ChgR_q W.v v1 W (({W with v:=v'}:jF).add (ps.map Lg)) []->Q w2):rA (some ⟨wa,0,none⟩) r w1 Q:=by
 obtain⟨S2,h2,u2,e2⟩:=dN v' w1 BC g.Ch g.up;have hn:=ok.len;have CZ:=ok.v.cG.cM;have gl:=g.len;have l1:W.v.t.aT.length<=W.v.cG.oI:=by have:=ok.v.t.len;have:=ok.v.eE;omega
 have l2:W.v.t.aT.length*W.v.cG.cM<=W.v.cG.oI*W.v.cG.cM:=QB _ l1;have l3:=(Yr ok.v.cG hn.2.1).2.1;have lw:W.v.cG.oI*W.v.cG.cM<=16*16:=JA ok.v.cG.oI.2 CZ.2;have ec:v'.cG=W.v.cG:=g.same.cG.trans Dq.1;have et:v'.t=W.v.t:=g.same.t.trans Dq.2.1;refine Tt h2 (Tk (g.row.cov e2) hN) (by show W.gR.length+_<=_;omega) λw4 S4 h4 u4=>?_;refine hQ w4 S4 ⟨h4,u2.tr u4,eX.nil,TI ⟨WN g.ok aB,by have:=ok.b0;omega,ok.len,λp hp=>⟨(ok.ds p hp).1.mono aB,(ok.ds p hp).2.trans ec.symm⟩,ok.gR,λe he=>ok.aT e (by rw[<-et];exact he)⟩ λx hx=>?_,ec,by show(W.gR++_).length<=_;rw[mH,lD];omega,by show v'.dL<=_;rw[g.same.dL,Dq.2.2];omega,iF _⟩ ⟨v',ps,g.same,g.nil,rfl,rfl⟩;obtain⟨p,hp,rfl⟩:=lN.1 hx;exact⟨(g.yr p hp).1,λh=>by cases h⟩
def Yc(K:jF->IV->Prop):Prop:=∀(N:BS) (W0 w:aH) (S:BS) (a wa n:Nat) (W:jF) (E:qQ) (G:Gr) (B:Int) (ev:IV) (sl:Sl) (Q:WQ Sl),K W ev->iI N E.e a wa W w S->(∀k,N k->k<w.heap.size)->Bs W0 E G S w->UZ G B n W->B<=1000000000->W.gR.length<=800000->W.v.dL<1000000000->Rd w sl 1 eU ev.Wc->BD sl S w->ev.Wc.length<=5000->
 (∀rh hs W' w' S',wK N G B n E.e a wa W w S rh hs (zI W.v.cG n) W' w' S'->JK G W ev W' hs->Q rh w')->NK (some ⟨wa,0,none⟩) (Rg (ev,sl)) w Q
inductive ij(G:Gr):jF->List IV->jF->List vB->Prop
 |nil {W:jF}:ij G W [] W []
 |gS {W:jF} {PY:List IV} {W1:jF} {hs:List vB} {ev:IV} {W2:jF} {IT:List vB}:ij G W PY W1 hs->JK G W1 ev W2 IT->ij G W (PY++[ev]) W2 (hs++IT)
abbrev RowE:=zE (α:=IV) eU 5 rz IV.Wc
structure DoO(N:BS)(G:Gr)(B:Int)(n:Nat)(ee a wa:Nat)(W:jF)(w:aH)(S:BS)(rh:Sl)(hs:List vB)(c:Nat)(W':jF)(w':aH)(S':BS):Prop where
 x:iI N ee a wa W' w' S'
 up:Up S S' w w'
 CU:Mh w.heap.size S' w' rh hs
 ok:UZ G (B+16*c) n W'
 cG:W'.v.cG=W.v.cG
 len:W'.gR.length<=W.gR.length+c*zI W.v.cG n
 dL:W'.v.dL<=W.v.dL+c
 hl:hs.length<=c*20
theorem iI.SN{N':BS}(h:iI N E.e a wa W w S)(hb:W.gR=[]):iI N' E.e a wa W w S:=by
 obtain⟨wL,xs,h1,h2,h3⟩:=h.ex;rw[hb] at h1;have:xs=[]:=List.map_eq_nil_iff.1 h1;subst this;exact⟨wL,[],by rw[hb];rfl,h2,λx hx=>by cases hx⟩
theorem iI.weak{N':BS}(h:iI N E.e a wa W w S)(hN:∀k,N' k->N k\/w.heap.size<=k):iI N' E.e a wa W w S:=by
 obtain⟨wL,xs,h1,h2,h3⟩:=h.ex;exact⟨wL,xs,h1,h2,λx hx=>⟨(h3 x hx).1,(h3 x hx).2.o,λb hb hn=>(hN _ hn).elim ((h3 x hx).2.n b hb) λh=>by have:=((h3 x hx).2.o b hb).2;omega⟩⟩
theorem iI.ov{w':aH}{F:BS}(h:iI N E.e a wa W w S)(m:aY F w w')(hF:∀k,F k->N k/\¬S k):iI N E.e a wa W w' S:=by
 obtain⟨wL,xs,h1,h2,h3⟩:=h.ex;exact⟨wL,xs,h1,bF.aL h2 m λk hk hf=>(hF k hf).2 hk,λx hx=>⟨(h3 x hx).1.aL m fN λb hb hf=>(h3 x hx).2.n b hb (hF _ hf).1,λb hb=>⟨((h3 x hx).2.o b hb).1,nM ((h3 x hx).2.o b hb).2 m.size⟩,(h3 x hx).2.n⟩⟩
theorem do_i{K:jF->IV->Prop}(jA:Yc K){PY:Sl}{l:List IV}{Q:Sl->aH->Prop}(hK:∀W1 ev,ev∈l->(l.length=1->W1=W)->K W1 ev)(h:iI N E.e a wa W w S)(hN:∀k,N k->k<w.heap.size)(hb:Bs W0 E G S w)(ok:UZ G B n W)(hB:B+16*l.length<=1000000000)(hll:l.length<=100)(DM:W.gR.length+l.length*2000<=800000)(LK:W.v.dL+l.length<=1000000000)(hr:RowE (λk=>¬S k/\k<w.heap.size) w PY l)(hl:∀ev∈l,ev.Wc.length<=5000)
  (hQ:∀rh hs W' w' S',DoO N G B n E.e a wa W w S rh hs l.length W' w' S'->ij G W l W' hs->Q rh w'):zQ (some ⟨wa,0,none⟩) PY w Q:=by
 unfold zQ;have lt0:=h.lt;have hlr:=hr.len;have hn:=ok.len;have hmu:zI W.v.cG n<=2000:=by
  unfold zI;have h1:=ok.v.cG.oI;have h2:=ok.v.cG.cM;have h3:W.v.cG.oI*(2*W.v.cG.cM+2)<=16*34:=JA h1.2 aB;have h4:n*(2*W.v.cG.cM+1)<=16*33:=JA aB aB;omega
 refine aF (λh=>by simp at h) (λ_=>?_);refine bK (λc t w1=>∃(i:Nat) (rh:Sl) (hs:List vB) (W1:jF) (S1:BS),i<=l.length/\c=l.length-i/\t=(rh,(i:Int),())/\DoO (λk=>N k\/BL rh k) G B n E.e a wa W w S rh hs i W1 w1 S1/\ij G W (l.take i) W1 hs/\hs.length<=i*20) l.length
  ⟨0,bD,[],W,S,iF _,rfl,rfl,⟨h.weak λk hk=>hk.elim .inl λ⟨b,bY,_⟩=>(by cases bY),Up.refl _ _,eX.nil,ok.mono aB,rfl,by simp,aB,by simp⟩,.nil,iF _⟩ ?_
 rintro c t w1 ⟨i,rh,hs,W1,S1,hi,rfl,rfl,g,hdo,hhl⟩ X hX;dsimp only;refine aJ (λcL=>?_) (λlK=>?_)
 ·have dF:i<l.length:=aB
  have cU:=gU dF;have fP:=oE dF;have sD:=FW dF;generalize l[i]=ev at*;obtain⟨q,sl,hq,hh,CU,Fg⟩:=(hr.aL eEv_ne g.up.m λk hk _=>hk.1).get cU;have z1:=g.up.size;rw[lJ,qM i aB];refine⟨⟨aB,cL⟩,aA hq (bJ (l:=kEv) (Rg (ev,sl)) hh ?_)⟩;refine eZ (zs:=rz (⟨0,0,0,0,[]⟩,bD)) (vs:=rz (ev,sl)) nj rfl (oneEv _) λw3 o3 k3 z3=>?_;refine bJ (l:=kEv) (Rg (ev,sl)) (o3.holds λj v hj=>by rw[pU];exact hj) ?_;have hos:BD sl S1 w1:=λb bY=>⟨λhs=>(g.up.s _ hs).elim (Fg b bY).1.1 λh=>by have:=(Fg b bY).1.2;omega,(Fg b bY).2⟩;have glen:=g.len;have im:i*zI W.v.cG n<=i*2000:=Nat.mul_le_mul_left _ hmu;have gnow:=g.dL;have hi2:i*2000+2000<=l.length*2000:=by have:(i+1)*2000<=l.length*2000:=QB _ dF;omega
  refine jA _ _ _ _ _ _ _ _ _ _ _ _ _ _ (hK _ _ fP λh1=>by
   have e0:i=0:=aB;subst e0;generalize he:l.take 0=l0 at hdo;cases hdo with
   |nil=>rfl
   |gS _ _=>simp at he) (g.x.kp k3) (λk hk=>hk.elim (λh=>by have:=hN k h;have:=k3.size;omega) λ⟨b,bY,e⟩=>by have:=g.CU.lt bY;have:=k3.size;omega) ((hb.up g.up).kp k3) g.ok aB aB aB (CU.aL k3 fN λ_ _=>id) (hos.kp k3) (hl ev fP) λrh2 IT W2 w4 S4 g4 zC=>?_
  have U4:Up S1 S4 w1 w4:=(Up.aO k3).tr g4.up;have bd4:=g4.x.lt;have ghl:=g4.hl;have z3':=k3.size;have z4:=g4.up.size;have h0:=g.CU.up U4;refine eX.jy NW ub oneHd aB h0 (g4.CU) aB (λb bY=>by have:=g.CU.lt bY;omega) aB aB bd4 λr' w5 v5 m5 nb5=>?_;have nS:∀k,BL rh k->¬S4 k:=λk hk=>(h0.DX k hk).2;have x4:=g4.x.weak (N':=λk=>BL rh k\/(N k\/BL r' k)) λk hk=>hk.elim (λh=>.inl (.inr h)) λhk=>hk.elim (λh=>.inl (.inl h)) λ⟨b,bY,e⟩=>(nb5 b bY).imp (λ⟨a',pE,e2⟩=>.inr ⟨a',pE,by rw[e,e2]⟩) λh=>aB;have x5:=(x4.ov m5 λk hk=>⟨.inl hk,nS k hk⟩).weak (N':=λk=>N k\/BL r' k) λk hk=>.inl (.inr hk)
  ·have m5':=m5.mono (G:=λk=>w.heap.size<=k/\¬S4 k) λk _ hk=>h0.DX k hk
   have g4len:=g4.len;have g4now:=g4.dL;rw[g.cG] at g4len;have e1:(i+1)*zI W.v.cG n=i*zI W.v.cG n+zI W.v.cG n:=by rw[Nat.add_mul,Nat.one_mul]
   refine hX _ _ _ aB ⟨i+1,r',hs++IT,W2,S4,dF,rfl,rfl,⟨x5,Up.gE (g.up.tr U4) m5',v5,g4.ok.mono aB,g4.cG.trans g.cG,aB,aB,by rw[mH];omega⟩,by rw[sD];exact .gS hdo zC,by rw[mH];omega⟩
 ·have ei:i=l.length:=aB
  subst ei;rw[pF] at hdo;exact hQ rh hs W1 w1 S1 ⟨g.x.weak λ_ h=>.inl (.inl h),g.up,g.CU,g.ok,g.cG,g.len,g.dL,g.hl⟩ hdo
end
end
section
abbrev RowU:=eX (α:=wF) eU MS 3 Cm wF.data
section
variable{N:BS}{W0 w:aH}{S:BS}{a wa n:Nat}{W:jF}{E:qQ}{G:Gr}{B:Int}
theorem HU{Q:cO->aH->Prop}(h:iI N E.e a wa W w S)(hQ:Q (some ⟨a,0,none⟩) w):pD (some ⟨wa,0,none⟩) w Q:=by
 unfold pD;obtain⟨S1,_,_,c0,_⟩:=h.Ch;exact aF (λh=>by simp at h) (λ_=>aA rfl (aE (k:=.ptr) (some ⟨a,0,none⟩) c0 hQ))
theorem Hg{Q:Sl->aH->Prop}(h:iI N E.e a wa W w S)(hl:W.gR.length<=900000)(hd:∀u∈W.gR,u.data.length<=3000)(hQ:∀r w',RowU w.heap.size (λk=>k<w.heap.size) w' r W.gR->aN w w'->Q r w'):yL (some ⟨wa,0,none⟩) w Q:=by
 unfold yL;obtain⟨wL,c2,lb,rL,_⟩:=h.OW;refine aF (λh=>by simp at h) (λ_=>aA rfl (aE (k:=.slice) wL c2 ?_));refine bK (λc t w1=>∃(i:Nat) (r:Sl),i<=W.gR.length/\c=W.gR.length-i/\t=(r,(i:Int),())/\aN w w1/\RowU w.heap.size (λk=>k<w.heap.size) w1 r (W.gR.take i)) W.gR.length
  ⟨0,bD,iF _,rfl,rfl,aY.refl _ _,eX.nil⟩ ?_
 rintro c t w1 ⟨i,r,hi,rfl,rfl,k1,v1⟩ X hX;dsimp only;refine aJ (λcL=>?_) (λlK=>?_)
 ·have dF:i<W.gR.length:=aB
  have cU:=gU dF;have fP:=oE dF;have sD:=FW dF;generalize W.gR[i]=u at*;have hdu:=hd u fP;obtain⟨q,sl,hq,hh,CU,Fg⟩:=(rL.kp eUn_ne k1).get cU;rw[lJ,qM i aB];refine⟨⟨aB,aB⟩,aA hq (bJ (l:=[.i,.bool,.slice]) (u.d,u.up,sl,()) hh ?_)⟩;refine eZ (zs:=Cm (⟨0,false,[]⟩,bD)) (vs:=Cm (u,sl)) Jb rfl (Xo _) λw3 o3 k3 z3=>?_;have k3d:=k3.tr (bO w3);have Lk:=o3.aL (bO w3) id;refine aE (k:=.i) u.d (dO Lk rfl) (aE (k:=.bool) u.up (dO Lk rfl) (aE (k:=.slice) sl (dO Lk rfl) ?_));refine vJ (CU.aL k3d fN λ_ _=>id) (show u.data.length<=1000000 by omega) λrc w4 S4 _ k4 _ rd4 f4=>?_;have o4:=Lk.aL k4 id;refine⟨dO o4 rfl,dO o4 rfl,?_⟩;have K4:=k3d.tr k4;have z1:=k1.size;have z3':=k3d.size;have z4:=k4.size;refine eX.gS EG VT Xo aB (v1.kp K4) (by rw[qF];omega) aB (λk hk=>aB) u (sl:=rc) rd4.1 (λb hb=>⟨by have:=f4 b hb;omega,λhk=>by have:=f4 b hb;omega,rd4.2.2.1 b hb,λb' bY e=>by have:=v1.lt bY;have:=f4 b hb;omega⟩) λr' w6 v6 m6=>?_;refine hX _ _ _ aB ⟨i+1,r',dF,rfl,rfl,(k1.tr K4).fresh m6 λk hk=>hk.1,by rw[sD];exact v6⟩
 ·have ei:i=W.gR.length:=aB
  subst ei;rw[pF] at v1;exact hQ r w1 v1 k1
end
def WldR(ee a wa:Nat)(FY:Sl)(rs:List cO)(v:gW)(ds:List (Nat×yY)):As:=
 aZ (gD ee a v) (aZ (sM wa Sg (eW a FY bD)) (aZ (jB NB 1 Lp FY rs) (wI Xb ds)))
instance{ee a wa:Nat}{FY:Sl}{rs:List cO}{v:gW}{ds:List (Nat×yY)}:bF (WldR ee a wa FY rs v ds):=by unfold WldR;infer_instance
theorem Yg{α:Type}{e:TypeId}{n:Nat}{aX:α->List Value}{w:aH}:jB e n aX bD ([]:List α) w (λ_=>False):=⟨dP.nil _ _ _ _,λk=>⟨False.elim,λ⟨b,hb,_⟩=>by cases hb⟩⟩
theorem WNew_i{g:GT}{G:Gr}{c:wQ}{n:Nat}{w:aH}{Q:cO->Int->aH->Prop}(hg:TA w g G)(ok:xJ G)(KT:c.Ok)(hn:1<=n/\n<=16)
  (hQ:∀E a wa sp tp lp W0 FY ds w' S',iI (λ_=>False) E.e a wa ⟨IZ c G.m sp tp lp,ds,[],FY⟩ w' S'->Bs W0 E G S' w'->aN w w'->aN w W0->UZ G 0 n ⟨IZ c G.m sp tp lp,ds,[],FY⟩->(∀k,S' k->w.heap.size<=k)->ds.map (·.2)=List.replicate n (QE c)->Q (some ⟨wa,0,none⟩) 0 w'):uI g (wO c) (n:Int) w Q:=by
 unfold uI;refine bP λw1 o1 k1 z1=>?_;refine cD (cs:=JH c) λw2 b2 k2 z2=>?_;have tc:∀{wx:aH},sM w1.heap.size xL (JH c) wx (λk=>k=w1.heap.size)->bW wx ⟨w1.heap.size,0,none⟩ 0 (qP JF (wO c)):=λb=>b.1.holds λj v hj=>by rw[pU];exact hj
 refine aJ (λh=>aB) (λ_=>aJ (λh=>aB) (λ_=>?_));refine bJ (l:=[.slice,.slice,.slice]) g (KY (g:=g) (o1.aL k2 id)) (bJ (l:=JF) (wO c) (tc b2) ?_);have K2:=k1.tr k2;refine VNew_i (hg.aO K2) ok KT λE a sp tp lp W0 w3 S3 h3 Nq kW k3 lo3=>aF (λh=>by cases h) (λ_=>?_);have b3:=bF.kp b2 k3;refine cD (cs:=eW a bD bD) λw4 b4 k4 z4=>?_;have bd3:=bF.gI h3;have z2':=K2.size;have z3:=k3.size;have h4:WldR E.e a w3.heap.size bD [] (IZ c G.m sp tp lp) [] w4 (λk=>S3 k\/(k=w3.heap.size\/(False\/False))):=
  aZ.vZ (bF.kp h3 k4) (aZ.vZ b4 (aZ.vZ Yg (show wI Xb [] w4 (λ_=>False) fromλ_=>id) λ_ h _=>h) λ_ _ h=>h.elim id id) λk h1 h2=>h2.elim (λe=>by have:=bd3 k h1;omega) λh=>h.elim id id
 have b4':=bF.kp b3 k4;refine bK (λcc t w5=>∃(i:Nat) (FY:Sl) (ds:List (Nat×yY)) (S5:BS),i<=n/\cc=n-i/\t=((i:Int),())/\WldR E.e a w3.heap.size FY (RY ds) (IZ c G.m sp tp lp) ds w5 S5/\Up S3 S5 w3 w5/\ds.map (·.2)=List.replicate i (QE c)/\sM w1.heap.size xL (JH c) w5 (λk=>k=w1.heap.size)) n
  ⟨0,bD,[],_,iF _,rfl,rfl,h4,Up.new k4 λk hk=>by
   rcases hk with h|h|h
   ·exact .inl h
   ·exact .inr aB
   ·exact(h.elim id id).elim,rfl,b4'⟩ ?_
 rintro cc t w5 ⟨i,FY,ds,S5,hi,rfl,rfl,h5,u5,LQ,b5⟩ X hX;dsimp only;have z5:=u5.size;have S5lo:∀k,S5 k->w2.heap.size<=k:=λk hk=>(u5.s k hk).elim (lo3 k) λh=>aB;have n1:¬S5 w1.heap.size:=λh=>by have:=S5lo _ h;omega
 have dl:ds.length=i:=by have:=congrArg List.length LQ;simpa using this
 refine aJ (λcL=>?_) (λlK=>?_)
 ·refine bJ (l:=JF) (wO c) (tc b5) (DNew_i KT λw6 h6 hlt6 k6 hlo6=>?_)
  obtain⟨d,hd⟩:∃d,d=w6.heap.size-1:=⟨_,rfl⟩;rw[<-hd] at h6 hlo6 ⊢;have Nt:=bF.gI h5;obtain⟨SV,SQ,hV,⟨SB,SR,hBl,⟨SW,SD,hRow,hAll,dWD,eWD⟩,dBR,eBR⟩,dVQ,eVQ⟩:=bF.kp h5 k6;have fg:∀k,SB k\/SW k\/SD k->S5 k:=λk hk=>(eVQ k).2 (.inr ((eBR k).2 (hk.imp id λh=>(eWD k).2 h)));have c1:w6.cell? ((⟨w3.heap.size,0,none⟩:Addr).add 1)=some (sv FY):=aP hBl rfl;refine aE (k:=.slice) FY c1 ?_;refine cD (cs:=Lp (some ⟨d,0,none⟩)) λw7 b7 k7 z7=>?_;have Vs:(RY ds).length=i:=by simpa using dl
  refine fO Ms GS onePt (x:=⟨some ⟨w6.heap.size,0,none⟩,1,1⟩) ((hRow.1.aL k7 λ_ _=>id)) (jN GS [some ⟨d,0,none⟩] b7 rfl dJ) (by simp;omega) (by simp;omega) λs2 w8 v8 m8 hr8 _=>?_;have mW:∀k,BL FY k->SW k:=λk ⟨b,hb,e⟩=>(hRow.2 k).2 ⟨b,hb,e⟩;have nB:∀k,SB k->¬BL FY k:=λk h1 h2=>dBR k h1 ((eWD k).2 (.inl (mW k h2)));have nD:∀k,SD k->¬BL FY k:=λk h1 h2=>dWD k (mW k h2) h1;have nV:∀k,SV k->¬BL FY k:=λk h1 h2=>dVQ k h1 ((eBR k).2 (.inr ((eWD k).2 (.inl (mW k h2)))));have n5:∀k,BL FY k->k<w5.heap.size:=λk h=>Nt k (fg k (.inr (.inl (mW k h))));have hBl8:sM w3.heap.size Sg (eW a FY bD) w8 SB:=bF.aL (bF.kp hBl k7) m8 nB;have hAll8:wI Xb ds w8 SD:=bF.aL (bF.kp hAll k7) m8 nD;have hV8:gD E.e a (IZ c G.m sp tp lp) w8 SV:=bF.aL (bF.kp hV k7) m8 nV;have h68:wP d (QE c) w8 (λk=>k=d):=bF.aL (bF.kp h6 k7) m8 λk (e:k=d) h=>by have:=n5 k h;omega
  have hR8:jB NB 1 Lp s2 (RY ds++[some ⟨d,0,none⟩]) w8 (λk=>BL s2 k):=⟨v8,λk=>Iff.rfl⟩;have zx:∀k,BL s2 k->BL FY k\/w7.heap.size<=k:=λk ⟨b,hb,e⟩=>by
   rcases hr8 with h|⟨b',h,h2⟩
   ·exact .inl ⟨b,h.symm.trans hb,e⟩
   ·rw[hb] at h;cases h;exact .inr (by rw[e];exact h2)
  refine pG hBl8 (t:=aAt) Mn dJ rfl rfl λw9 b9 u9=>?_;have d8:d<w6.heap.size:=aB;have hds':wI Xb (ds++[(d,QE c)]) w9 (λk=>SD k\/(k=d\/False)):=WK (aZ.vZ (bF.aL hAll8 u9.m λk h1 h2=>dBR k h2 ((eWD k).2 (.inr h1))) (aZ.vZ (bF.aL h68 u9.m λk (e:k=d) h=>by have:=Nt k (fg k (.inl h));omega) (show DO w9 (λ_=>False) fromλ_=>id) λ_ _ h=>h) λk h1 h2=>h2.elim (λe=>by have:=Nt k (fg k (.inr (.inr h1)));omega) id);have hR9:jB NB 1 Lp s2 (RY (ds++[(d,QE c)])) w9 (λk=>BL s2 k):=by
   have e:RY (ds++[(d,QE c)])=RY ds++[some ⟨d,0,none⟩]:=by simp[RY]
   rw[e];exact bF.aL hR8 u9.m λk h1 h2=>(zx k h1).elim (nB k h2) λh=>by have:=Nt k (fg k (.inl h2));omega
  have hV9:gD E.e a (IZ c G.m sp tp lp) w9 SV:=bF.aL hV8 u9.m λk h1 h2=>dVQ k h1 ((eBR k).2 (.inl h2));have bV:=λk (h:SV k)=>Nt k ((eVQ k).2 (.inl h));have h9:WldR E.e a w3.heap.size s2 (RY (ds++[(d,QE c)])) (IZ c G.m sp tp lp) (ds++[(d,QE c)]) w9 (λk=>SV k\/(SB k\/(BL s2 k\/(SD k\/(k=d\/False))))):=
   aZ.vZ hV9 (aZ.vZ b9 (aZ.vZ hR9 hds' λk h1 h2=>by
    rcases h2 with h2|h2|h2
    ·exact(zx k h1).elim (nD k h2) λh=>by have:=Nt k (fg k (.inr (.inr h2)));omega
    ·exact(zx k h1).elim (λh=>by have:=n5 k h;omega) λh=>aB
    ·exact h2) λk h1 h2=>by
    rcases h2 with h2|h2|h2|h2
    ·exact(zx k h2).elim (nB k h1) λh=>by have:=Nt k (fg k (.inl h1));omega
    ·exact dBR k h1 ((eWD k).2 (.inr h2))
    ·have:=Nt k (fg k (.inl h1));omega
    ·exact h2) λk h1 h2=>by
    rcases h2 with h2|h2|h2|h2|h2
    ·exact dVQ k h1 ((eBR k).2 (.inl h2))
    ·exact(zx k h2).elim (nV k h1) λh=>by have:=bV k h1;omega
    ·exact dVQ k h1 ((eBR k).2 (.inr ((eWD k).2 (.inr h2))))
    ·have:=bV k h1;omega
    ·exact h2
  have U9:Up S5 (λk=>SV k\/(SB k\/(BL s2 k\/(SD k\/(k=d\/False))))) w5 w9:=by
   refine⟨(((k6.tr k7).wk).trans m8 λk _ hk=>fg k (.inr (.inl (mW k hk)))).trans u9.m λk _ hk=>fg k (.inl hk),λk hk=>?_⟩;rcases hk with h|h|h|h|h|h
   ·exact .inl ((eVQ k).2 (.inl h))
   ·exact .inl (fg k (.inl h))
   ·exact(zx k h).imp (λh=>fg k (.inr (.inl (mW k h)))) λh=>aB
   ·exact .inl (fg k (.inr (.inr h)))
   ·exact .inr aB
   ·exact h.elim
  rw[qM i aB];refine hX _ _ _ aB ⟨i+1,s2,ds++[(d,QE c)],_,aB,rfl,rfl,h9,u5.tr U9,by rw[yA,LQ,List.replicate_succ'];rfl,bF.aL b5 U9.m λk (e:k=w1.heap.size) h=>n1 (e▸h)⟩
 ·have ei:i=n:=aB
  subst ei;have hfin:Xd E.e a w3.heap.size FY bD [] (IZ c G.m sp tp lp) ds w5 S5:=by
   obtain⟨SV,SQ,hV,⟨SB,SR,hBl,⟨SW,SD,hRow,hAll,dWD,eWD⟩,dBR,eBR⟩,dVQ,eVQ⟩:=h5;exact⟨SV,SQ,hV,⟨SB,SR,hBl,⟨SW,SD,hRow,⟨SD,λ_=>False,hAll,Yg,λ_ _ h=>h,λk=>⟨.inl,λh=>h.elim id False.elim⟩⟩,dWD,eWD⟩,dBR,eBR⟩,dVQ,eVQ⟩
  have Ds:∀k,S5 k->w.heap.size<=k:=λk hk=>iG z2' (S5lo k hk);have kk:aN w w5:=(K2.tr k3).fresh u5.m λk hk=>iG z2' (lo3 k hk);refine hQ E a w3.heap.size sp tp lp W0 FY ds w5 S5 ⟨bD,[],rfl,hfin,λx hx=>by cases hx⟩ (Nq.up u5) kk (K2.tr kW) ⟨srv0_ok ok KT sp tp lp,aB,⟨dl,hn⟩,λp hp=>?_,λu hu=>(by cases hu),λe he=>(by cases he)⟩ Ds LQ;have:p.2∈ds.map (·.2):=lN.2 ⟨p,hp,rfl⟩;rw[LQ] at this;have e2:=(List.mem_replicate.1 this).2;rw[e2];exact⟨drv0_ok KT,rfl⟩
end
open Tryz (prog)
section
structure pS(W w:aH)(A:Nat)(g:GT)(N:List (Int×Int))(E:List R3)(B:List (Int×Int)):Prop where
 gN:cW w A gP (Au g)
 vn:dP w so 2 eP g.1 N
 ve:dP w QP 3 eR3 g.2.1 E
 vb:dP w tBan 2 eP g.2.2.1 B
 n1:∀a,g.1.b=some a->a.block≠A/\W.heap.size<=a.block
 n2:∀a,g.2.1.b=some a->a.block≠A/\W.heap.size<=a.block
 n3:∀a,g.2.2.1.b=some a->a.block≠A/\W.heap.size<=a.block
 n12:∀a b,g.1.b=some a->g.2.1.b=some b->a.block≠b.block
 n13:∀a b,g.1.b=some a->g.2.2.1.b=some b->a.block≠b.block
 n23:∀a b,g.2.1.b=some a->g.2.2.1.b=some b->a.block≠b.block
 Lw:W.heap.size<=A
 kp:aN W w
section
variable{W w:aH}{A:Nat}{g:GT}{N:List (Int×Int)}{E:List R3}{B:List (Int×Int)}
theorem pS.aO{w':aH}(h:pS W w A g N E B)(k:aN w w'):pS W w' A g N E B:=
 ⟨h.gN.aL k id,h.vn.aL k λ_ _=>id,h.ve.aL k λ_ _=>id,h.vb.aL k λ_ _=>id,h.n1,h.n2,h.n3,h.n12,h.n13,h.n23,h.Lw,h.kp.tr k⟩
theorem pS.pushN(h:pS W w A g N E B)(hl:N.length<=100000)(x:Int×Int){K:aH->Prop}(hK:∀w' s,pS W w' A (s,g.2.1,g.2.2.1,()) (N++[x]) E B->aY (λk=>k=A\/∃a,g.1.b=some a/\k=a.block) w w'->(∀a,s.b=some a->g.1.b=some a\/w.heap.size<=a.block)->K w'):
  aG w (eP x).toArray so λa5 qD=>qD.cell? ((⟨A,0,none⟩:Addr).add 0)=some (Value.slice g.1.b g.1.l g.1.c)/\aW prog kh kh g.1 (Value.slice (some a5) 1 1) qD λ(s4:Sl) xX=>aI prog kh ((⟨A,0,none⟩:Addr).add 0) (Value.slice s4.b s4.l s4.c) xX K:=by
 refine bP λw1 o1 k1 z1=>?_;have h1:=h.aO k1;refine⟨?_,?_⟩
 ·rw[aS,h1.gN.cell];rfl
 have vx:dP w1 so 2 eP ⟨some ⟨w.heap.size,0,none⟩,1,1⟩ [x]:=dP.new VF [x] (by simpa using o1) (by simp[maxLen]);refine fO Js VF oneP h1.vn (vx.rd VF) (by simp;omega) (by simp;omega) λr w2 v2 m2 f2 _=>?_;have hA:=h.gN.lt;have hW:=h.kp.size;have lit:((⟨A,0,none⟩:Addr).add 0)=⟨A,0,none⟩:=by rw[aS,pU]
 rw[lit];have o2:=h1.gN.aL m2 λ⟨a,ha,e⟩=>(h.n1 a ha).1 e.symm;refine cI (o:=0) (v:=sv r) o2 ni dJ rfl rfl λw3 o3 m3 _=>?_;have fr:∀a,r.b=some a->g.1.b=some a\/w.heap.size<=a.block:=λa ha=>by
  rcases f2 with h2|⟨b,hb,cL⟩
  ·exact .inl (by rw[<-h2];exact ha)
  ·rw[ha] at hb;cases hb;exact .inr aB
 have nr:∀a,r.b=some a->a.block≠A/\W.heap.size<=a.block:=λa ha=>by
  rcases fr a ha with h2|h2
  ·exact h.n1 a h2
  ·exact⟨aB,aB⟩
 refine hK w3 r ⟨o3,v2.aL m3 λa ha e=>(nr a ha).1 e,(h1.ve.aL m2 λa ha ⟨b,hb,e⟩=>h.n12 b a hb ha e.symm).aL m3 λa ha e=>(h.n2 a ha).1 e,(h1.vb.aL m2 λa ha ⟨b,hb,e⟩=>h.n13 b a hb ha e.symm).aL m3 λa ha e=>(h.n3 a ha).1 e,nr,h.n2,h.n3,λa b ha hb=>by have:=h.ve.lt hb;rcases fr a ha with h2|h2;exact h.n12 a b h2 hb;omega,λa b ha hb=>by have:=h.vb.lt hb;rcases fr a ha with h2|h2;exact h.n13 a b h2 hb;omega,h.n23,h.Lw,((h.kp.tr k1).fresh m2 λk ⟨a,ha,e⟩=>by rw[e];exact(h.n1 a ha).2).fresh m3 λk e=>by rw[show k=A from e];exact h.Lw⟩ ?_ fr;exact((k1.wk.trans m2 λk _ hk=>.inr hk).trans m3 λk _ e=>.inl e)
theorem pS.pushE(h:pS W w A g N E B)(hl:E.length<=100000)(x:R3){K:aH->Prop}(hK:∀w' s,pS W w' A (g.1,s,g.2.2.1,()) N (E++[x]) B->aY (λk=>k=A\/∃a,g.2.1.b=some a/\k=a.block) w w'->(∀a,s.b=some a->g.2.1.b=some a\/w.heap.size<=a.block)->K w'):
  aG w (eR3 x).toArray QP λa5 qD=>qD.cell? ((⟨A,0,none⟩:Addr).add 1)=some (Value.slice g.2.1.b g.2.1.l g.2.1.c)/\aW prog ki ki g.2.1 (Value.slice (some a5) 1 1) qD λ(s4:Sl) xX=>aI prog ki ((⟨A,0,none⟩:Addr).add 1) (Value.slice s4.b s4.l s4.c) xX K:=by
 refine bP λw1 o1 k1 z1=>?_;have h1:=h.aO k1;refine⟨?_,?_⟩
 ·rw[aS,h1.gN.cell];rfl
 have vx:dP w1 QP 3 eR3 ⟨some ⟨w.heap.size,0,none⟩,1,1⟩ [x]:=dP.new FG [x] (by simpa using o1) (by simp[maxLen]);refine fO Ju FG oneR3 h1.ve (vx.rd FG) (by simp;omega) (by simp;omega) λr w2 v2 m2 f2 _=>?_;have hA:=h.gN.lt;have hW:=h.kp.size;have lit:((⟨A,0,none⟩:Addr).add 1)=⟨A,1,none⟩:=by rw[aS,pU]
 rw[lit];have o2:=h1.gN.aL m2 λ⟨a,ha,e⟩=>(h.n2 a ha).1 e.symm;refine cI (o:=1) (v:=sv r) o2 Ja dJ rfl rfl λw3 o3 m3 _=>?_;have fr:∀a,r.b=some a->g.2.1.b=some a\/w.heap.size<=a.block:=λa ha=>by
  rcases f2 with h2|⟨b,hb,cL⟩
  ·exact .inl (by rw[<-h2];exact ha)
  ·rw[ha] at hb;cases hb;exact .inr aB
 have nr:∀a,r.b=some a->a.block≠A/\W.heap.size<=a.block:=λa ha=>by
  rcases fr a ha with h2|h2
  ·exact h.n2 a h2
  ·exact⟨aB,aB⟩
 refine hK w3 r ⟨o3,(h1.vn.aL m2 λa ha ⟨b,hb,e⟩=>h.n12 a b ha hb e).aL m3 λa ha e=>(h.n1 a ha).1 e,v2.aL m3 λa ha e=>(nr a ha).1 e,(h1.vb.aL m2 λa ha ⟨b,hb,e⟩=>h.n23 b a hb ha e.symm).aL m3 λa ha e=>(h.n3 a ha).1 e,h.n1,nr,h.n3,λa b ha hb=>by have:=h.vn.lt ha;rcases fr b hb with h2|h2;exact h.n12 a b ha h2;omega,h.n13,λa b ha hb=>by have:=h.vb.lt hb;rcases fr a ha with h2|h2;exact h.n23 a b h2 hb;omega,h.Lw,((h.kp.tr k1).fresh m2 λk ⟨a,ha,e⟩=>by rw[e];exact(h.n2 a ha).2).fresh m3 λk e=>by rw[show k=A from e];exact h.Lw⟩ ?_ fr;exact((k1.wk.trans m2 λk _ hk=>.inr hk).trans m3 λk _ e=>.inl e)
theorem pS.pushB(h:pS W w A g N E B)(hl:B.length<=100000)(x:Int×Int){K:aH->Prop}(hK:∀w' s,pS W w' A (g.1,g.2.1,s,()) N E (B++[x])->aY (λk=>k=A\/∃a,g.2.2.1.b=some a/\k=a.block) w w'->(∀a,s.b=some a->g.2.2.1.b=some a\/w.heap.size<=a.block)->K w'):
  aG w (eP x).toArray tBan λa5 qD=>aW prog tsBan tsBan g.2.2.1 (Value.slice (some a5) 1 1) qD λ(s4:Sl) xX=>aI prog tsBan ((⟨A,0,none⟩:Addr).add 2) (Value.slice s4.b s4.l s4.c) xX K:=by
 refine bP λw1 o1 k1 z1=>?_;have h1:=h.aO k1;have vx:dP w1 tBan 2 eP ⟨some ⟨w.heap.size,0,none⟩,1,1⟩ [x]:=dP.new VF [x] (by simpa using o1) (by simp[maxLen]);refine fO Pq VF oneP h1.vb (vx.rd VF) (by simp;omega) (by simp;omega) λr w2 v2 m2 f2 _=>?_;have hA:=h.gN.lt;have hW:=h.kp.size;have lit:((⟨A,0,none⟩:Addr).add 2)=⟨A,2,none⟩:=by rw[aS,pU]
 rw[lit];have o2:=h1.gN.aL m2 λ⟨a,ha,e⟩=>(h.n3 a ha).1 e.symm;refine cI (o:=2) (v:=sv r) o2 aAx dJ rfl rfl λw3 o3 m3 _=>?_;have fr:∀a,r.b=some a->g.2.2.1.b=some a\/w.heap.size<=a.block:=λa ha=>by
  rcases f2 with h2|⟨b,hb,cL⟩
  ·exact .inl (by rw[<-h2];exact ha)
  ·rw[ha] at hb;cases hb;exact .inr aB
 have nr:∀a,r.b=some a->a.block≠A/\W.heap.size<=a.block:=λa ha=>by
  rcases fr a ha with h2|h2
  ·exact h.n3 a h2
  ·exact⟨aB,aB⟩
 refine hK w3 r ⟨o3,(h1.vn.aL m2 λa ha ⟨b,hb,e⟩=>h.n13 a b ha hb e).aL m3 λa ha e=>(h.n1 a ha).1 e,(h1.ve.aL m2 λa ha ⟨b,hb,e⟩=>h.n23 a b ha hb e).aL m3 λa ha e=>(h.n2 a ha).1 e,v2.aL m3 λa ha e=>(nr a ha).1 e,h.n1,h.n2,nr,h.n12,λa b ha hb=>by have:=h.vn.lt ha;rcases fr b hb with h2|h2;exact h.n13 a b ha h2;omega,λa b ha hb=>by have:=h.ve.lt ha;rcases fr b hb with h2|h2;exact h.n23 a b ha h2;omega,h.Lw,((h.kp.tr k1).fresh m2 λk ⟨a,ha,e⟩=>by rw[e];exact(h.n3 a ha).2).fresh m3 λk e=>by rw[show k=A from e];exact h.Lw⟩ ?_ fr;exact((k1.wk.trans m2 λk _ hk=>.inr hk).trans m3 λk _ e=>.inl e)
end
theorem aBh{k n:Int}{w:aH}{Q:Int->aH->Prop}(hn:0<n)(h63:n<=1000000)(hQ:∀x,0<=x->x<n->Q x w):xS k n w Q:=by
 unfold xS;have h1:=Int.lt_tmod_of_pos k hn;have h2:=Int.tmod_lt_of_pos k hn;refine⟨aB,aJ (λh=>?_) (λh=>?_)⟩
 ·rw[gV (n:=Int.tmod k n+n) aB aB]
  exact hQ _ aB aB
 ·have h':¬Int.tmod k n<0:=h
  exact hQ _ aB h2
theorem MC{l:Sl}{xs:List Int}{i n:Int}{w:aH}{Q:Int->aH->Prop}(hl:Rd w l 1 eI xs)(h0:0<=i)(h1:i<=1000000)(hn:0<n)(h63:n<=1000000)(hQ:∀x w',0<=x->x<n->aN w w'->Q x w'):fR l i n w Q:=by
 unfold fR;have hll:=hl.len;refine aF (λh=>hQ 0 w (lM _) hn (aY.refl _ _)) (λh=>?_);have gH:¬(l.l:Int)=0:=by simpa using h
 have uN:0<(l.l:Int):=aB;have d:aN w w.drew:=aY.drew (aY.refl _ w);have m0:0<=Int.tmod i (l.l:Int):=Int.tmod_nonneg _ h0;have m1:=Int.tmod_lt_of_pos i uN;have cU:=gU (show(Int.tmod i (l.l:Int)).toNat<xs.length by omega);obtain⟨p,hp,hc⟩:=cQ (k:=.i) (e:=λx=>x) (hl.aL d dA λ_ _=>id) cU;exact⟨gH,⟨m0,m1⟩,aA hp (aE (k:=.i) _ hc ⟨by decide,gH,aBh hn h63 λx x0 x1=>hQ x _ x0 x1 d⟩)⟩
def RV(wn hn i:Nat)(k:Nat):Int:=if k=0 then(if i%wn<wn-1 then((i+1:Nat):Int) else-1) else(if i/wn<hn-1 then((i+wn:Nat):Int) else-1)
def MI(wn hn i k:Nat):List (Nat×Nat):=DT wn hn i++(if 1<=k then GV wn hn i 0 else [])++(if 2<=k then GV wn hn i 1 else [])
theorem Yo{wn hn i k:Nat}(hk:k<2):MI wn hn i (k+1)=MI wn hn i k++GV wn hn i k:=by
 unfold MI;have:k=0\/k=1:=aB;rcases this with rfl|rfl<;>simp
theorem full_nxt{wn hn i k:Nat}(hk:k<2):(RV wn hn i k<0/\GV wn hn i k=[])\/∃j:Nat,RV wn hn i k=(j:Int)/\GV wn hn i k=[(i,j),(j,i)]:=by
 unfold RV;have:k=0\/k=1:=aB;rcases this with rfl|rfl
 ·by_cases h:i%wn<wn-1
  ·exact .inr ⟨i+1,by simp[h],by simp[GV,h]⟩
  ·exact .inl ⟨by simp[h],by simp[GV,h]⟩
 ·by_cases h:i/wn<hn-1
  ·exact .inr ⟨i+wn,by simp[h],by simp[GV,h]⟩
  ·exact .inl ⟨by simp[h],by simp[GV,h]⟩
theorem Town_i{l:Sl}{xs:List Int}{W:aH}{Q:GT->aH->Prop}(hl:Rd W l 1 eI xs)(hQ:∀g G w',TA w' g G->xJ G->G.n<=16->aN W w'->Q g w'):vM l W Q:=by
 unfold vM;refine bP λw1 o1 k1 z1=>bP λw2 o2 k2 z2=>?_;have K2:=k1.tr k2;have st2:pS W w2 w1.heap.size (bD,bD,bD,()) [] [] []:=
  ⟨o2,dP.nil _ _ _ _,dP.nil _ _ _ _,dP.nil _ _ _ _,(λa ha=>by cases ha),(λa ha=>by cases ha),(λa ha=>by cases ha),(λa b ha=>by cases ha),(λa b ha=>by cases ha),(λa b ha=>by cases ha),aB,K2⟩
 have hA1:W.heap.size<w1.heap.size:=aB;generalize hA:w1.heap.size=A at*;have YG:cW w2 W.heap.size gP (Au (bD,bD,bD,())):=o1.aL k2 id;have rb:∀{wx:aH},aN W wx->Rd wx l 1 eI xs:=λkx=>hl.aL kx dA λ_ _=>id;refine MC (rb K2) (by decide) (by decide) (by decide) (by decide) λx1 w3 sL xW k3=>?_;refine MC (rb (K2.tr k3)) (by decide) (by decide) (by decide) (by decide) λx2 w4 x20 x21 k4=>?_;obtain⟨wn,hwn⟩:∃wn:Nat,(1:Int)+x1=(wn:Int):=⟨(1+x1).toNat,aB⟩;obtain⟨hn,hhn⟩:∃hn:Nat,(1:Int)+x2=(hn:Int):=⟨(1+x2).toNat,aB⟩;have wr1:aQ ((1:Int)+x1)=(wn:Int):=by rw[gV aB aB,hwn]
 have wr2:aQ ((1:Int)+x2)=(hn:Int):=by rw[gV aB aB,hhn]
 have wn1:1<=wn/\wn<=4:=aB;have hn1:1<=hn/\hn<=4:=aB;have hM:wn*hn<=4*4:=JA wn1.2 hn1.2;have hM1:1*1<=wn*hn:=JA wn1.1 hn1.1;have wrM:aQ ((wn:Int)*(hn:Int))=((wn*hn:Nat):Int):=by
  rw[<-Int.natCast_mul,gV aB aB]
 rw[wr1,wr2,wrM];generalize hMM:wn*hn=M at*;have tm:∀i:Nat,Int.tmod (i:Int) (wn:Int)=((i%wn:Nat):Int):=λi=>(Int.ofNat_tmod i wn).symm;have td:∀i:Nat,Int.tdiv (i:Int) (wn:Int)=((i/wn:Nat):Int):=λi=>(Int.ofNat_tdiv i wn).symm;have gH:¬(wn:Int)=0:=aB;have st4:=(st2.aO k3).aO k4;refine bK (λc t w5=>∃(i:Nat) (g:GT) (N:List (Int×Int)),i<=M/\c=M-i/\t=((i:Int),())/\pS W w5 A g N [] []/\N.length=i/\(∀p∈N,(0<=p.1/\p.1<=4095)/\0<=p.2/\p.2<=4095)/\cW w5 W.heap.size gP (Au (bD,bD,bD,()))/\(∀a,g.1.b=some a->a.block≠W.heap.size)/\g.2.1.b=none/\g.2.2.1.b=none) M
  ⟨0,_,[],iF _,rfl,rfl,st4,rfl,by simp,(YG.aL k3 id).aL k4 id,(λa ha=>by cases ha),rfl,rfl⟩ ?_
 clear st2 st4 YG o1 o2;rintro c t w5 ⟨i,g,N,hi,rfl,rfl,st,hNl,hNo,oR,nR,eb2,Le⟩ X hX;dsimp only;refine aJ (λcL=>?_) (λlK=>?_)
 ·have dF:i<M:=aB
  have d5:aN w5 w5.drew:=aY.drew (aY.refl _ w5);have Vk:=st.aO d5;have lit0:∀{wx:aH},cW wx A gP (Au g)->wx.cell? ((⟨A,0,none⟩:Addr).add 0)=some (sv g.1):=λh=>by rw[aS,h.cell];rfl
  refine aE (k:=.slice) g.1 (lit0 Vk.gN) ⟨gH,gH,?_⟩;rw[gV (n:=(2:Int)+(i:Int)) aB aB];refine MC (rb Vk.kp) aB aB (by decide) (by decide) λx3 w6 x30 x31 k6=>?_;have UQ:=Vk.aO k6;refine⟨lit0 UQ.gN,?_⟩;have hmod:i%wn<wn:=Nat.mod_lt _ aB;have hdiv:i/wn<=i:=Nat.div_le_self _ _;rw[tm,td];generalize i/wn=q at*;generalize i%wn=r at*;rw[gV (n:=(q:Int)) aB aB,gV (n:=(100:Int)*(q:Int)) aB aB,gV (n:=(100:Int)*(r:Int)) aB aB,gV (n:=(100:Int)*(q:Int)+x3) aB aB];refine UQ.pushN (x:=((100:Int)*(r:Int),(100:Int)*(q:Int)+x3)) aB λw8 s st8 m8 f8=>?_;rw[qM i aB];have zk:=UQ.kp.size;have oR6:=(oR.aL d5 id).aL k6 id;refine hX _ _ _ aB ⟨i+1,_,_,dF,rfl,rfl,st8,by simp[hNl],λp hp=>?_,oR6.aL m8 λhh=>?_,λa ha e=>?_,eb2,Le⟩
  ·rcases jS.1 hp with hp|hp
   ·exact hNo p hp
   ·have:p=((100:Int)*(r:Int),(100:Int)*(q:Int)+x3):=by simpa using hp
    subst this;exact⟨⟨by show 0<=(100:Int)*_;omega,by show(100:Int)*_<=4095;omega⟩,by show 0<=(100:Int)*_+x3;omega,by show(100:Int)*_+x3<=4095;omega⟩
  ·rcases hh with e|⟨a,ha,e⟩
   ·omega
   ·exact nR a ha e.symm
  ·rcases f8 a ha with h1|h1
   ·exact nR a h1 e
   ·have:=oR6.lt;omega
 have ei:M=i:=aB;subst ei;clear hX lK hi;refine bK (λc t w5=>∃(i:Nat) (g:GT) (E:List R3),i<=M/\c=M-i/\t=((i:Int),())/\pS W w5 A g N E []/\BU wn hn (DT wn hn i) E/\E.length<=2*2*i/\cW w5 W.heap.size gP (Au (bD,bD,bD,()))/\(∀a,g.1.b=some a->a.block≠W.heap.size)/\(∀a,g.2.1.b=some a->a.block≠W.heap.size)/\g.2.2.1.b=none) M
  ⟨0,g,[],iF _,rfl,rfl,st,BU.nil _ _ _,by simp,oR,nR,(λa ha=>by rw[eb2] at ha;cases ha),Le⟩ ?_
 clear st oR nR eb2 Le g;rintro c t w5 ⟨i,g,E,hi,rfl,rfl,st,hG,hEl,oR,nR,Nm,Le⟩ X hX;dsimp only;refine aJ (λcL=>?_) (λlK=>?_)
 ·have dF:i<M:=aB
  refine eZ (vs:=[aD (-1),aD (-1)]) aAC rfl (by simp[Value.oneCell']) λeQ Dm LO z12=>?_;have iu:=st.aO LO;have oR12:=oR.aL LO id;have hAlt:=st.gN.lt;have up:∀{wx wy:aH} {g':GT} {E':List R3} {B':List (Int×Int)},pS W wx A g' N E' B'->aY (λk=>k=w5.heap.size) wx wy->(∀a,g'.1.b=some a->a.block≠w5.heap.size)->(∀a,g'.2.1.b=some a->a.block≠w5.heap.size)->(∀a,g'.2.2.1.b=some a->a.block≠w5.heap.size)->pS W wy A g' N E' B':=λh m h1 h2 h3=>
   ⟨h.gN.aL m λe=>aB,h.vn.aL m λa ha e=>h1 a ha e,h.ve.aL m λa ha e=>h2 a ha e,h.vb.aL m λa ha e=>h3 a ha e,h.n1,h.n2,h.n3,h.n12,h.n13,h.n23,h.Lw,h.kp.fresh m λk e=>by rw[show k=w5.heap.size from e];exact st.kp.size⟩
  have n1:∀a,g.1.b=some a->a.block≠w5.heap.size:=λa ha e=>by have:=st.vn.lt ha;omega
  have n2:∀a,g.2.1.b=some a->a.block≠w5.heap.size:=λa ha e=>by have:=st.ve.lt ha;omega
  have n3:∀a,g.2.2.1.b=some a->a.block≠w5.heap.size:=λa ha=>by rw[Le] at ha;cases ha
  have upR:∀{wx wy:aH},cW wx W.heap.size gP (Au (bD,bD,bD,()))->aY (λk=>k=w5.heap.size) wx wy->cW wy W.heap.size gP (Au (bD,bD,bD,())):=λo m=>o.aL m λe=>aB;intro J1 OP;have core1:∀gQ,pS W gQ A g N E []->cW gQ W.heap.size gP (Au (bD,bD,bD,()))->cW gQ w5.heap.size Xj [aD (RV wn hn i 0),aD (-1)]->J1 () gQ:=by
   intro gQ st13 oR13 o13;apply OP;intro J2 Ra;have core2:∀mQ,pS W mQ A g N E []->cW mQ W.heap.size gP (Au (bD,bD,bD,()))->cW mQ w5.heap.size Xj [aD (RV wn hn i 0),aD (RV wn hn i 1)]->J2 () mQ:=by
    intro mQ st14 oR14 o14;apply Ra;have h0:BU wn hn (MI wn hn i 0) E:=by unfold MI;simpa using hG
    refine bK (λc t fV=>∃(k:Nat) (g:GT) (E:List R3),k<=2/\c=2-k/\t=((k:Int),())/\pS W fV A g N E []/\BU wn hn (MI wn hn i k) E/\E.length<=2*2*i+2*k/\cW fV W.heap.size gP (Au (bD,bD,bD,()))/\
      cW fV w5.heap.size Xj [aD (RV wn hn i 0),aD (RV wn hn i 1)]/\(∀a,g.1.b=some a->a.block≠W.heap.size/\a.block≠w5.heap.size)/\(∀a,g.2.1.b=some a->a.block≠W.heap.size/\a.block≠w5.heap.size)/\g.2.2.1.b=none) 2
     ⟨0,g,E,aB,rfl,rfl,st14,h0,aB,oR14,o14,λa ha=>⟨nR a ha,n1 a ha⟩,λa ha=>⟨Nm a ha,n2 a ha⟩,Le⟩ ?_
    clear st14 oR14 o14 h0;rintro c t fV ⟨k,g,E,hk,rfl,rfl,st,hG,hEl,oR,oN,m1,m2,Le⟩ Y hY;dsimp only;refine aJ (λFx=>?_) (λjs=>?_)
    ·have lT:k<2:=aB
     have cN:∀{wx:aH},cW wx w5.heap.size Xj [aD (RV wn hn i 0),aD (RV wn hn i 1)]->wx.cell? ((⟨w5.heap.size,0,none⟩:Addr).add (k*1))=some (aD (RV wn hn i k)):=λh=>by
      rw[aS,h.cell];have:k=0\/k=1:=aB;rcases this with rfl|rfl<;>rfl
     have B2:0<=(k:Int)/\(k:Int)<((2:Nat):Int):=⟨aB,aB⟩;rw[lJ];refine⟨B2,aE (k:=.i) (RV wn hn i k) (cN oN) ?_⟩;rcases full_nxt (wn:=wn) (hn:=hn) (i:=i) lT with⟨QC,hfull⟩|⟨j,hj,hfull⟩
     ·refine aJ (λ_=>?_) (λh=>absurd QC h)
      rw[qM k aB];exact hY _ _ _ aB ⟨k+1,g,E,lT,rfl,rfl,st,by rw[Yo lT];exact hG.RZ,aB,oR,oN,m1,m2,Le⟩
     refine aJ (λh=>absurd (show RV wn hn i k<0 from h) aB) (λ_=>?_);rw[gV (n:=(3:Int)*(i:Int)) aB aB,gV (n:=(20:Int)+(3:Int)*(i:Int)) aB aB,gV (n:=(20:Int)+(3:Int)*(i:Int)+(k:Int)) aB aB];refine MC (rb st.kp) aB aB (by decide) (by decide) λx5 gX _ _ Nn=>?_;have st16:=st.aO Nn;have oR16:=oR.aL Nn id;have oN16:=oN.aL Nn id;rw[gV (n:=(90:Int)+(i:Int)) aB aB,gV (n:=(90:Int)+(i:Int)+(k:Int)) aB aB,gV (n:=(60:Int)+(i:Int)) aB aB,gV (n:=(60:Int)+(i:Int)+(k:Int)) aB aB];intro J3 hJ3;have core3:∀lP g' E',pS W lP A g' N E' []->BU wn hn (MI wn hn i k++[(i,j)]) E'->E'.length<=2*2*i+2*k+1->cW lP W.heap.size gP (Au (bD,bD,bD,()))->cW lP w5.heap.size Xj [aD (RV wn hn i 0),aD (RV wn hn i 1)]->
       (∀a,g'.1.b=some a->a.block≠W.heap.size/\a.block≠w5.heap.size)->(∀a,g'.2.1.b=some a->a.block≠W.heap.size/\a.block≠w5.heap.size)->g'.2.2.1.b=none->J3 () lP:=by
      intro lP g' E' rJ hG17 hEl17 oR17 oN17 yw m27 eb17;apply hJ3;have pk:MI wn hn i (k+1)=MI wn hn i k++[(i,j)]++[(j,i)]:=by rw[Yo lT,hfull];simp
      refine aF (λ_=>?_) (λ_=>?_)
      ·have d17:aN lP lP.drew:=aY.drew (aY.refl _ lP)
       have Gi:=rJ.aO d17;have Lx:∀{wx:aH} {g':GT},cW wx A gP (Au g')->wx.cell? ((⟨A,0,none⟩:Addr).add 1)=some (sv g'.2.1):=λh=>by rw[aS,h.cell];rfl
       refine aE (k:=.slice) g'.2.1 (Lx Gi.gN) ⟨B2,aE (k:=.i) (RV wn hn i k) (cN (oN17.aL d17 id)) ?_⟩;refine MC (rb Gi.kp) aB aB (by decide) (by decide) λx7 nJ x70 x71 Wf=>?_;have st18:=Gi.aO Wf;refine⟨cN ((oN17.aL d17 id).aL Wf id),Lx st18.gN,?_⟩;rw[gV (n:=(1:Int)+x7) aB aB,hj];refine st18.pushE (x:=((j:Int),(i:Int),(1:Int)+x7)) aB λAO s Ri yv f21=>?_;have o5:=((oN17.aL d17 id).aL Wf id);have oR5:=((oR17.aL d17 id).aL Wf id);rw[qM k aB];refine hY _ _ _ aB ⟨k+1,_,_,lT,rfl,rfl,Ri,by rw[pk];exact hG17.push aB aB,by rw[mH,List.length_singleton];omega,oR5.aL yv λhh=>?_,o5.aL yv λhh=>?_,yw,λa ha=>?_,eb17⟩
       ·rcases hh with e|⟨a,ha,e⟩
        ·omega
        ·exact(m27 a ha).1 e.symm
       ·rcases hh with e|⟨a,ha,e⟩
        ·omega
        ·exact(m27 a ha).2 e.symm
       ·rcases f21 a ha with h1|h1
        ·exact m27 a h1
        ·have:=oR5.lt;have:=o5.lt;exact⟨aB,aB⟩
      ·rw[qM k aB]
       exact hY _ _ _ aB ⟨k+1,_,_,lT,rfl,rfl,rJ,by rw[pk];exact hG17.RZ,aB,oR17,oN17,yw,m27,eb17⟩
     refine aF (λ_=>?_) (λ_=>?_)
     ·have d17:aN gX gX.drew:=aY.drew (aY.refl _ gX)
      have Gi:=st16.aO d17;have Lx:∀{wx:aH} {g':GT},cW wx A gP (Au g')->wx.cell? ((⟨A,0,none⟩:Addr).add 1)=some (sv g'.2.1):=λh=>by rw[aS,h.cell];rfl
      refine aE (k:=.slice) g.2.1 (Lx Gi.gN) ⟨B2,aE (k:=.i) (RV wn hn i k) (cN (oN16.aL d17 id)) ?_⟩;refine MC (rb Gi.kp) aB aB (by decide) (by decide) λx9 nJ x70 x71 Wf=>?_;have st18:=Gi.aO Wf;refine⟨cN ((oN16.aL d17 id).aL Wf id),Lx st18.gN,?_⟩;rw[gV (n:=(1:Int)+x9) aB aB,hj];refine st18.pushE (x:=((i:Int),(j:Int),(1:Int)+x9)) aB λAO s Ri yv f21=>?_;have o5:=((oN16.aL d17 id).aL Wf id);have oR5:=((oR16.aL d17 id).aL Wf id);refine core3 AO _ _ Ri (hG.push aB aB) (by rw[mH,List.length_singleton];omega) (oR5.aL yv λhh=>?_) (o5.aL yv λhh=>?_) m1 (λa ha=>?_) Le
      ·rcases hh with e|⟨a,ha,e⟩
       ·omega
       ·exact(m2 a ha).1 e.symm
      ·rcases hh with e|⟨a,ha,e⟩
       ·omega
       ·exact(m2 a ha).2 e.symm
      ·rcases f21 a ha with h1|h1
       ·exact m2 a h1
       ·have:=oR5.lt;have:=o5.lt;exact⟨aB,aB⟩
     ·exact core3 gX g E st16 hG.RZ aB oR16 oN16 m1 m2 Le
    ·have ek:k=2:=aB
     subst ek;rw[qM i aB];have e2:MI wn hn i 2=DT wn hn (i+1):=by unfold MI;rw[pg];simp
     rw[e2] at hG;exact hX _ _ _ aB ⟨i+1,g,E,dF,rfl,rfl,st,hG,aB,oR,λa ha=>(m1 a ha).1,λa ha=>(m2 a ha).1,Le⟩
   refine⟨gH,?_⟩;have q0:(0:Int)<=((i/wn:Nat):Int):=Int.natCast_nonneg _;rw[td,gV (n:=((i/wn:Nat):Int)) aB (by have:=Nat.div_le_self i wn;omega),gV (n:=(hn:Int)-1) aB aB];refine aJ (λhc=>⟨by decide,?_⟩) (λhc=>?_)
   ·have Vv:i/wn<hn-1:=by have:((i/wn:Nat):Int)<(hn:Int)-1:=hc;omega
    rw[show Int.toNat (1:Int)*1=1 from rfl,show((⟨w5.heap.size,0,none⟩:Addr).add 1)=⟨w5.heap.size,1,none⟩ by rw[aS],gV (n:=(i:Int)+(wn:Int)) aB aB];refine cI (o:=1) (v:=aD ((i:Int)+(wn:Int))) o13 cY dJ rfl rfl λmQ o14 YM _=>?_;refine core2 mQ (up st13 YM n1 n2 n3) (upR oR13 YM) ?_;have:RV wn hn i 1=(i:Int)+(wn:Int):=by unfold RV;simp[Vv]
    rw[this];exact o14
   ·have Vv:¬i/wn<hn-1:=by have:¬((i/wn:Nat):Int)<(hn:Int)-1:=hc;omega
    refine core2 gQ st13 oR13 ?_;have:RV wn hn i 1=-1:=by unfold RV;simp[Vv]
    rw[this];exact o13
  refine⟨gH,?_⟩;rw[tm,gV (n:=(wn:Int)-1) aB aB];have hmod:i%wn<wn:=Nat.mod_lt _ aB;refine aJ (λhc=>⟨by decide,?_⟩) (λhc=>?_)
  ·have Vv:i%wn<wn-1:=by have:((i%wn:Nat):Int)<(wn:Int)-1:=hc;omega
   rw[show Int.toNat (0:Int)*1=0 from rfl,add_zero,gV (n:=(i:Int)+(1:Int)) aB aB];refine cI (o:=0) (v:=aD ((i:Int)+1)) Dm cY dJ rfl rfl λgQ o13 gk _=>?_;refine core1 gQ (up iu gk n1 n2 n3) (upR oR12 gk) ?_;have:RV wn hn i 0=(i:Int)+1:=by unfold RV;simp[Vv]
   rw[this];exact o13
  ·have Vv:¬i%wn<wn-1:=by have:¬((i%wn:Nat):Int)<(wn:Int)-1:=hc;omega
   refine core1 eQ iu oR12 ?_;have:RV wn hn i 0=-1:=by unfold RV;simp[Vv]
   rw[this];exact Dm
 have ei:M=i:=aB;subst ei;have T0:BQ M 0 E:=by rw[<-hMM];rw[<-hMM] at hG;exact hG.town aB aB
 have t0l:=T0.len;clear hX lK hi hG hEl;refine bK (λc t w5=>∃(k:Nat) (g:GT) (E:List R3),k<=3/\c=4-k/\t=((k:Int),())/\pS W w5 A g N E []/\BQ M k E/\cW w5 W.heap.size gP (Au (bD,bD,bD,()))/\(∀a,g.1.b=some a->a.block≠W.heap.size)/\(∀a,g.2.1.b=some a->a.block≠W.heap.size)/\g.2.2.1.b=none) 4
  ⟨0,g,E,aB,rfl,rfl,st,T0,oR,nR,Nm,Le⟩ ?_
 clear st oR nR Nm Le T0 t0l g E;rintro c t w5 ⟨k,g,E,hk,rfl,rfl,st,T,oR,nR,Nm,Le⟩ X hX;dsimp only;refine MC (rb st.kp) (by decide) (by decide) (by decide) (by decide) λsL w6 xa xb k6=>?_;have UQ:=st.aO k6;have oR6:=oR.aL k6 id;have tl:=T.len;refine aJ (λcL=>?_) (λlK=>?_)
 ·have lT:k<3:=by have:(k:Int)<sL:=cL;omega
  have d6:aN w6 w6.drew:=aY.drew (aY.refl _ w6);have st6d:=UQ.aO d6;have Lx:∀{wx:aH},cW wx A gP (Au g)->wx.cell? ((⟨A,0,none⟩:Addr).add 1)=some (sv g.2.1):=λh=>by rw[aS,h.cell];rfl
  refine aE (k:=.slice) g.2.1 (Lx st6d.gN) ?_;rw[gV (n:=(4:Int)+(k:Int)) aB aB,gV (n:=(8:Int)+(k:Int)) aB aB,gV (n:=(12:Int)+(k:Int)) aB aB];refine MC (rb st6d.kp) aB aB aB aB λxW w7 a0 a1 k7=>?_;have YE:=st6d.aO k7;refine⟨Lx YE.gN,MC (rb YE.kp) aB aB aB aB λKt w8 b0 b1 k8=>?_⟩;have st8:=YE.aO k8;refine⟨Lx st8.gN,MC (rb st8.kp) aB aB (by decide) (by decide) λVi w9 c0 c1 k9=>?_⟩;have st9:=st8.aO k9;refine⟨Lx st9.gN,?_⟩;rw[gV (n:=(1:Int)+Vi) aB aB];have oR9:=(((oR6.aL d6 id).aL k7 id).aL k8 id).aL k9 id;refine st9.pushE (x:=(xW,Kt,(1:Int)+Vi)) aB λAO s Ri yv f21=>?_;rw[qM k aB];refine hX (4-(k+1)) _ _ aB ⟨k+1,_,_,lT,rfl,rfl,Ri,T.push ⟨⟨a0,a1⟩,⟨b0,b1⟩,by show 1<=(1:Int)+Vi;omega,by show(1:Int)+Vi<=40;omega⟩,oR9.aL yv λhh=>?_,nR,λa ha e=>?_,Le⟩
  ·rcases hh with e|⟨a,ha,e⟩
   ·omega
   ·exact Nm a ha e.symm
  ·rcases f21 a ha with h1|h1
   ·exact Nm a h1 e
   ·have:=oR9.lt;omega
 have T3:=T.RZ hk;clear hX lK;intro J hJ;have sS:∀w9 g E,pS W w9 A g N E []->BQ M 3 E->E≠[]->cW w9 W.heap.size gP (Au (bD,bD,bD,()))->(∀a,g.1.b=some a->a.block≠W.heap.size)->(∀a,g.2.1.b=some a->a.block≠W.heap.size)->g.2.2.1.b=none->J () w9:=by
  clear st UQ oR oR6 nR Nm Le T T3 tl g E;intro w9 g E st T hE1 oR nR Nm Le;apply hJ;have tl:=T.len;have B0:HA E 0 0 []:=⟨by simp,by simp,List.Pairwise.nil,by simp⟩;have cells:∀{wx:aH} {g':GT},cW wx A gP (Au g')->_:=λ{wx g'} h=>BG (x:=sv g'.1) (y:=sv g'.2.1) (z:=sv g'.2.2.1) h;refine bK (λc t w5=>∃(a:Nat) (g:GT) (B:List (Int×Int)),a<=E.length/\c=E.length-a/\t=((a:Int),())/\pS W w5 A g N E B/\HA E a 0 B/\cW w5 W.heap.size gP (Au (bD,bD,bD,()))/\(∀a,g.1.b=some a->a.block≠W.heap.size)/\(∀a,g.2.1.b=some a->a.block≠W.heap.size)/\(∀a,g.2.2.1.b=some a->a.block≠W.heap.size)) E.length
   ⟨0,g,[],iF _,rfl,rfl,st,B0,oR,nR,Nm,λa ha=>by rw[Le] at ha;cases ha⟩ ?_
  clear st oR nR Nm Le B0 g;rintro c t w5 ⟨a,g,B,ha,rfl,rfl,st,hB,oR,nR,Nm,nR3⟩ X hX;dsimp only;have el:=st.ve.len;refine aE (k:=.slice) g.2.1 (cells st.gN).2.1 (aJ (λcL=>?_) (λlK=>?_))
  ·have pE:a<E.length:=aB
   refine bK (λc t w6=>∃(b:Nat) (g:GT) (B:List (Int×Int)),b<=E.length/\c=E.length-b/\t=((b:Int),())/\pS W w6 A g N E B/\HA E a b B/\cW w6 W.heap.size gP (Au (bD,bD,bD,()))/\(∀a,g.1.b=some a->a.block≠W.heap.size)/\(∀a,g.2.1.b=some a->a.block≠W.heap.size)/\(∀a,g.2.2.1.b=some a->a.block≠W.heap.size)) E.length
    ⟨0,g,B,iF _,rfl,rfl,st,hB,oR,nR,Nm,nR3⟩ ?_
   clear st oR nR Nm nR3 hB el g B cL;rintro c t w6 ⟨b,g,B,hb,rfl,rfl,st,hB,oR,nR,Nm,nR3⟩ Y hY;dsimp only;have el:=st.ve.len;refine aE (k:=.slice) g.2.1 (cells st.gN).2.1 (aJ (λFx=>?_) (λjs=>?_))
   ·have bY:b<E.length:=aB
    have d6:aN w6 w6.drew:=aY.drew (aY.refl _ w6);have UQ:=st.aO d6;have oR6:=oR.aL d6 id;have hga:=gU pE;have hgb:=gU bY;have ea:E.getD a (0,0,0)=E[a]:=by rw[LZ,hga];rfl
    have eb:E.getD b (0,0,0)=E[b]:=by rw[LZ,hgb];rfl
    obtain⟨p,hp,_,_,ct,_⟩:=rd3 (UQ.ve.rd FG) hga;obtain⟨q,hq,_,cf,_,_⟩:=rd3 (UQ.ve.rd FG) hgb;rw[lJ,lJ];refine aE (k:=.slice) g.2.1 (cells UQ.gN).2.1 ⟨⟨aB,aB⟩,aA hp (aE (k:=.i) _ ct (aE (k:=.slice) g.2.1 (cells UQ.gN).2.1 ⟨⟨aB,aB⟩,aA hq (aE (k:=.i) _ cf ?_)⟩))⟩;rw[qM b aB];refine aF (λhe=>?_) (λhe=>?_)
    ·have uM:(E.getD a (0,0,0)).2.1=(E.getD b (0,0,0)).1:=by rw[ea,eb];simpa using he
     rw[gV (n:=(7:Int)*(a:Int)) aB aB,gV (n:=(7:Int)*(a:Int)+(b:Int)) aB aB];refine MC (rb UQ.kp) aB aB (by decide) (by decide) λx16 w7 _ _ k7=>?_;have YE:=UQ.aO k7;have oR7:=oR6.aL k7 id;refine aF (λ_=>?_) (λ_=>?_)
     ·have bl:=hB.len
      have fl:=wD (λi=>decide ((E.getD i.toNat (0,0,0)).1=(E.getD a (0,0,0)).2.1)) (oJ b);rw[vI] at fl;refine aE (k:=.slice) g.2.2.1 (cells YE.gN).2.2 ?_;refine YE.pushB (x:=((a:Int),(b:Int))) aB λw8 s st8 m8 f8=>?_;refine hY _ _ _ aB ⟨b+1,_,_,bY,rfl,rfl,st8,hB.push pE bY uM,oR7.aL m8 λhh=>?_,nR,Nm,λc hc e=>?_⟩
      ·rcases hh with e|⟨c,hc,e⟩
       ·omega
       ·exact nR3 c hc e.symm
      ·rcases f8 c hc with h1|h1
       ·exact nR3 c h1 e
       ·have:=oR7.lt;omega
     ·exact hY _ _ _ aB ⟨b+1,g,B,bY,rfl,rfl,YE,hB.skip,oR7,nR,Nm,nR3⟩
    ·exact hY _ _ _ aB ⟨b+1,g,B,bY,rfl,rfl,UQ,hB.skip,oR6,nR,Nm,nR3⟩
   ·have eb:b=E.length:=aB
    subst eb;rw[qM a aB];exact hX _ _ _ aB ⟨a+1,g,B,pE,rfl,rfl,st,hB.next T,oR,nR,Nm,nR3⟩
  ·have ea:a=E.length:=aB
   subst ea;refine bJ (l:=[.slice,.slice,.slice]) g (KY (g:=g) st.gN) ?_;refine fD (vs:=Au g) oR yR rfl (Xx g) λw43 o43 m43 _=>?_;refine bJ (l:=[.slice,.slice,.slice]) g (KY (g:=g) o43) ?_;refine hQ g ⟨N,E,B⟩ w43 ⟨(st.vn.aL m43 λa ha e=>nR a ha e).rd VF,(st.ve.aL m43 λa ha e=>Nm a ha e).rd FG,(st.vb.aL m43 λa ha e=>nR3 a ha e).rd VF⟩ (town_ok ⟨aB,aB⟩ hNl hNo T hE1 hB) (by show N.length<=16;omega) (st.kp.fresh m43 λk e=>by rw[show k=W.heap.size from e];exact iX _)
 have el:=UQ.ve.len;refine aE (k:=.slice) g.2.1 (by rw[aS,UQ.gN.cell];rfl) (aF (λh0=>?_) (λh0=>?_))
 ·have hl0:(g.2.1.l:Int)=0:=by simpa using h0
  refine bP λw7 o7 k7 z7=>?_;have YE:=UQ.aO k7;have oR7:=oR6.aL k7 id;rw[show((⟨A,0,none⟩:Addr).add 1)=⟨A,1,none⟩ by rw[aS]];have hAlt:=UQ.gN.lt;refine cI (o:=1) (v:=.slice (some ⟨w6.heap.size,0,none⟩) 1 1) YE.gN Ja dJ rfl rfl λw8 o8 m8 _=>?_;have ve:dP w7 QP 3 eR3 ⟨some ⟨w6.heap.size,0,none⟩,1,1⟩ [((0:Int),(0:Int),(3:Int))]:=dP.new FG [_] o7 (by simp[maxLen]);refine sS w8 (g.1,⟨some ⟨w6.heap.size,0,none⟩,1,1⟩,g.2.2.1,()) [((0:Int),(0:Int),(3:Int))] ⟨o8,YE.vn.aL m8 λa ha e=>(YE.n1 a ha).1 e,ve.aL m8 λa ha e=>?_,YE.vb.aL m8 λa ha e=>(YE.n3 a ha).1 e,YE.n1,λa ha=>?_,YE.n3,λa b ha hb=>?_,YE.n13,λa b ha hb=>?_,YE.Lw,YE.kp.fresh m8 λk e=>by rw[show k=A from e];exact YE.Lw⟩ (BQ.one aB) dJ (oR7.aL m8 λe=>aB) nR (λa ha e=>?_) Le
  ·cases ha;have e':w6.heap.size=A:=e;omega
  ·cases ha;exact⟨by show w6.heap.size≠A;omega,UQ.kp.size⟩
  ·cases hb;have:=UQ.vn.lt ha;show a.block≠w6.heap.size;omega
  ·rw[Le] at hb;cases hb
  ·cases ha;have e':w6.heap.size=W.heap.size:=e;have:=oR6.lt;omega
 ·have hE0:E≠[]:=λh=>by
   have h1:¬(g.2.1.l:Int)=0:=by simpa using h0
   rw[h] at el;simp at el;omega
  exact sS w6 g E UQ T3 hE0 oR6 nR Nm Le
end
theorem Small_i{l:Sl}{xs:List Int}{w:aH}{Q:Int×Int×Int×Int×Int×Int×Unit->aH->Prop}(hl:Rd w l 1 eI xs)(hQ:∀c w',c.Ok->aN w w'->Q (wO c) w'):xR l w Q:=by
 unfold xR;refine cD (cs:=JH ⟨0,0,0,0,0,0⟩) λw1 b1 k1 z1=>?_;refine MC (hl.aL k1 dA λ_ _=>id) (by decide) (by decide) (by decide) (by decide) λx1 w2 a1 c1 k2=>?_;have K2:=k1.tr k2;refine MC (hl.aL K2 dA λ_ _=>id) (by decide) (by decide) (by decide) (by decide) λx2 w3 a2 c2 k3=>?_;have K3:=K2.tr k3;refine MC (hl.aL K3 dA λ_ _=>id) (by decide) (by decide) (by decide) (by decide) λx3 w4 a3 c3 k4=>?_;have K4:=K3.tr k4;refine MC (hl.aL K4 dA λ_ _=>id) (by decide) (by decide) (by decide) (by decide) λx4 w5 a4 c4 k5=>?_;have K5:=K4.tr k5;rw[gV aB aB,gV aB aB,gV aB aB];refine eZ (zs:=JH ⟨0,0,0,0,0,0⟩) (vs:=[aD (1+x1),aD (1+x2),aD x3,aD (1+x4),aD 0,aD 0]) yQ rfl (by simp[Value.oneCell']) λw7 o7 k7 z7=>?_;have o7d:=o7.aL (bO w7) id;have K7:=(K5.tr k7).tr (bO w7);refine aE (k:=.i) (1+x4) (dO o7d rfl) ?_;refine MC (hl.aL K7 dA λ_ _=>id) (by decide) (by decide) (by decide) (by decide) λx6 w8 a6 c6 k8=>?_;have o8:=o7d.aL k8 id;refine⟨dO o8 rfl,?_⟩;rw[gV aB aB];have b8:sM w5.heap.size xL _ w8 (λk=>k=w5.heap.size):=⟨o8,λ_=>Iff.rfl⟩;refine pG b8 cY dJ rfl rfl λw9 b9 u9=>?_;have K8:=K7.tr k8;have z5:w.heap.size<=w5.heap.size:=K5.size;have K9:aN w w9:=K8.fresh u9.m λk (e:k=w5.heap.size)=>aB;refine MC (hl.aL K9 dA λ_ _=>id) (by decide) (by decide) (by decide) (by decide) λx7 eY a7 c7 IS=>?_;rw[gV aB aB];refine pG (bF.kp b9 IS) cY dJ rfl rfl λeN b11 Lh=>?_;have K11:aN w eN:=(K9.tr IS).fresh Lh.m λk (e:k=w5.heap.size)=>aB
 let c:wQ:=⟨(1+x1).toNat,(1+x2).toNat,x3,1+x4,1+x4+x6,5+x7⟩
 have Vu:((1+x1).toNat:Int)=1+x1:=aB;have PX:((1+x2).toNat:Int)=1+x2:=aB;have tup:wO c=(1+x1,1+x2,x3,1+x4,1+x4+x6,5+x7,()):=by show(((1+x1).toNat:Int),((1+x2).toNat:Int),_,_,_,_,())=_;rw[Vu,PX]
 refine bJ (l:=JF) (1+x1,1+x2,x3,1+x4,1+x4+x6,5+x7,()) (b11.1.holds λj v hj=>by rw[pU];exact hj) ?_;have n15:¬w.heap.size=w5.heap.size:=by have:=(k2.tr (k3.tr (k4.tr k5))).size;omega
 have o1:cW eN w.heap.size xL (JH ⟨0,0,0,0,0,0⟩):=by
  have x1:=b1.1.aL (k2.tr (k3.tr (k4.tr k5))) id;have x2:=((x1.aL k7 id).aL (bO w7) id).aL k8 id;exact((x2.aL u9.m n15).aL IS id).aL Lh.m n15
 refine fD (vs:=[aD (1+x1),aD (1+x2),aD x3,aD (1+x4),aD (1+x4+x6),aD (5+x7)]) o1 yQ rfl (by simp[Value.oneCell']) λeQ Dm Am _=>?_;refine bJ (l:=JF) (1+x1,1+x2,x3,1+x4,1+x4+x6,5+x7,()) (Dm.holds λj v hj=>by rw[pU];exact hj) ?_;have:=hQ c eQ ⟨by show 1<=(1+x1).toNat/\(1+x1).toNat<=16;omega,by show 1<=(1+x2).toNat/\(1+x2).toNat<=16;omega,by show 0<=x3/\x3<=20;omega,by show 1<=1+x4/\1+x4<=1000;omega,by show 1+x4<=1+x4+x6/\1+x4+x6<=1000;omega,by show 1<=5+x7/\5+x7<=1000;omega⟩ (K11.fresh Am λk (e:k=w.heap.size)=>aB);rw[tup] at this;exact this
structure Made(E:qQ)(G:Gr)(a wa n:Nat)(c:wQ)(w0 W0 w':aH)(S':BS)(W:jF):Prop where
 x:iI (λ_=>False) E.e a wa W w' S'
 b:Bs W0 E G S' w'
 k:aN w0 w'
 ok:UZ G 0 n W
 lo:∀k,S' k->w0.heap.size<=k
 w:∃sp tp lp FY ds,W=⟨IZ c G.m sp tp lp,ds,[],FY⟩/\ds.map (·.2)=List.replicate n (QE c)
theorem Made.aO{E:qQ}{G:Gr}{a wa n:Nat}{c:wQ}{w0 W0 w' w2:aH}{S':BS}{W:jF}(h:Made E G a wa n c w0 W0 w' S' W)(k:aN w' w2):Made E G a wa n c w0 W0 w2 S' W:=⟨h.x.kp k,h.b.kp k,h.k.tr k,h.ok,h.lo,h.w⟩
theorem Made.gR{E:qQ}{G:Gr}{a wa n:Nat}{c:wQ}{w0 W0 w':aH}{S':BS}{W:jF}(h:Made E G a wa n c w0 W0 w' S' W):W.gR=[]:=by
 obtain⟨_,_,_,_,_,rfl,_⟩:=h.w;rfl
theorem NewW_i{g:GT}{G:Gr}{c:wQ}{n:Nat}{w:aH}{Q:cO->Int->aH->Prop}(hg:TA w g G)(ok:xJ G)(KT:c.Ok)(hn:1<=n/\n<=16)
  (hQ:∀E a wa W0 w' S' W,Made E G a wa n c w W0 w' S' W->aN w W0->Q (some ⟨wa,0,none⟩) 0 w'):uI g (wO c) (n:Int) w Q:=
 WNew_i hg ok KT hn λE a wa sp tp lp W0 FY ds w' S' h1 h2 h3 Wk h4 h5 h6=>hQ E a wa W0 w' S' _ ⟨h1,h2,h3,h4,h5,sp,tp,lp,FY,ds,rfl,h6⟩ Wk
section
theorem ku{w:aH}{a b:Nat}{e e':TypeId}{cs ds:List Value}(o:cW w a e cs)(o':cW w b e' ds)(gH:e≠e'):a≠b:=λh=>by
 subst h;have h1:w.heap[a]? =some (.cells cs.toArray e (0,0)):=o;have h2:w.heap[a]? =some (.cells ds.toArray e' (0,0)):=o';rw[h1] at h2;cases h2;exact gH rfl
def Sls(w:aH)(a:Nat)(t:TypeId):Prop:=∃cs,cW w a t cs/\∀v∈cs,∃s:Sl,v=sv s
section
variable{w w':aH}{a:Nat}
variable{G:Gr}(m:aY (λk=>k=a) w w')(o:Sls w a gP)
include m o
end
def Cfb(w:aH)(a:Nat):Prop:=∃T cs,cW w a T cs/\(T=xL\/T=gP)
section
variable{w w':aH}{a:Nat}{G:Gr}(m:aY (λk=>k=a) w w')(o:Cfb w a)
include m o
set_option linter.unusedSectionVars false
theorem ty_ne{s:Sl}(h:Ty w s):∀b,s.b=some b->¬b.block=a:=λb hb e=>by
 obtain⟨T,cs,oo,hT⟩:=o;obtain⟨t,ds,o2,h1,h2⟩:=h b hb;refine ku o2 oo (λet=>?_) e;rcases hT with rfl|rfl
 ·exact h1 et
 ·exact h2 et
theorem JN{s:Sl}(h:Ty w s):Ty w' s:=λb hb=>by
 have hn:=ty_ne m o h b hb;obtain⟨t,ds,o2,h1⟩:=h b hb;exact⟨t,ds,o2.aL m hn,h1⟩
theorem MU{α:Type}{n:Nat}{aX:α->List Value}{s:Sl}{xs:List α}(h:Rd w s n aX xs)(gH:∀x,aX x≠[])(ht:Ty w s):Rd w' s n aX xs:=h.aL m gH (ty_ne m o ht)
theorem Ei{b:Nat}{e:TypeId}{cs:List Value}(h:cW w b e cs)(h1:e≠xL)(h2:e≠gP):cW w' b e cs:=by
 obtain⟨T,ds,oo,hT⟩:=o;refine h.aL m λeb=>ku h oo (λet=>?_) eb;rcases hT with rfl|rfl
 ·exact h1 et
 ·exact h2 et
theorem xz{row first:Sl}{n mm:Nat}{key:Int->Int}(h:ByN w row first n mm key)(h1:Ty w row)(h2:Ty w first):ByN w' row first n mm key:=by
 obtain⟨fs,rs,g1,g2,g3⟩:=h;exact⟨fs,rs,MU m o g1 dA h2,MU m o g2 dA h1,g3⟩
theorem gra_cfg{H:Sc}(h:vE w H G):vE w' H G:=by
 obtain⟨t1,t2,t3,t4,t5,t6,t7⟩:=h.Li;exact⟨h.ok,Ei m o h.head (by decide) (by decide),⟨MU m o h.val.nd GY t1,MU m o h.val.ed ZE t2,MU m o h.val.bn GY t3⟩,xz m o h.out t4 t6,xz m o h.LU t5 t7,JN m o t1,JN m o t2,JN m o t3,JN m o t4,JN m o t5,JN m o t6,JN m o t7⟩
theorem Ot{s:Sl}{dY:List (List Int)}(h:RB w s dY)(ht:∀b,s.b=some b->∃cs,cW w b.block BP cs):RB w' s dY:=by
 obtain⟨ss,h1,h2,h3,h4⟩:=h;have hs:Ty w s:=λb hb=>by obtain⟨cs,o2⟩:=ht b hb;exact⟨BP,cs,o2,by decide,by decide⟩
 refine⟨ss,MU m o h1 eS_ne hs,h2,λi x r hx hr=>MU m o (h3 i x r hx hr) dA (h4 x (zN hx)),λx hx=>JN m o (h4 x hx)⟩
theorem tur_cfg{t:Mg}(h:rY w t G):rY w' t G:=
 ⟨Ei m o h.head (by decide) (by decide),gra_cfg m o h.IU,Ot m o h.RV λb hb=>h.Li b (.inl hb),Ot m o h.prv λb hb=>h.Li b (.inr hb),λb hb=>by obtain⟨cs,oo⟩:=h.Li b hb;exact⟨cs,Ei m o oo (by decide) (by decide)⟩⟩
theorem lev_cfg{H:Mi}{n:Nat}{A:List bQ}{R:List Int}(h:oM w H n A R):oM w' H n A R:=by
 have on:∀{k:Nat} {e:TypeId} {cs:List Value},cW w k e cs->e≠xL->e≠gP->¬k=a:=λh h1 h2 eb=>by
  obtain⟨T,ds,oo,hT⟩:=o;refine ku h oo (λet=>?_) eb;rcases hT with rfl|rfl
  ·exact h1 et
  ·exact h2 et
 refine h.aL m λk hk=>?_;rcases hk with rfl|hk|⟨b,hb,ze⟩
 ·exact on h.head (by decide) (by decide)
 ·have hn:=h.LS.at_
  rcases hk with rfl|rfl|rfl|⟨i,s,b,h1,h2,ze⟩
  ·exact on hn.head (by decide) (by decide)
  ·exact on hn.sF (by decide) (by decide)
  ·exact on hn.LG (by decide) (by decide)
  ·obtain⟨cs,o2⟩:=Eb (hn.row i s h1) h2
   have:=on o2 (by decide) (by decide)
   first|(rw[ze];exact this)|(rw[<-ze];exact this)
 ·obtain⟨cs,o2⟩:=Eb h.iZ hb
  have:=on o2 (by decide) (by decide)
  first|(rw[ze];exact this)|(rw[<-ze];exact this)
theorem eng_cfg{E:qQ}(h:zK w E G):zK w' E G:=by
 obtain⟨os,h1,h2⟩:=h.ord;exact⟨Ei m o h.head (by decide) (by decide),tur_cfg m o h.RU,lev_cfg m o h.lev,⟨os,MU m o h1 dA h.oty,h2⟩,JN m o h.oty⟩
end
end
open Go.IntKind (wrap)
theorem Bs.chg{W0 w w2:aH}{E:qQ}{G:Gr}{S:BS}{g:Nat}(h:Bs W0 E G S w)(m:aY (λk=>k=g) w w2)(o:Cfb W0 g):∃W0',Bs W0' E G S w2/\W0'.heap.size=W0.heap.size:=by
 have hg:g<W0.heap.size:=by obtain⟨T,cs,oo,_⟩:=o;exact oo.lt
 have Ap:g<w2.heap.size:=nM hg (iG h.k0.size m.size);obtain⟨ob,Fg⟩:∃ob,w2.heap[g]? =some ob:=⟨_,Array.getElem?_eq_getElem Ap⟩
 let W0':aH:={W0 with heap:=W0.heap.setIfInBounds g ob}
 have m0:aY (λk=>k=g) W0 W0':=kV W0 g ob;have LP:W0'.heap.size=W0.heap.size:=by simp[W0']
 refine⟨W0',⟨eng_cfg m0 o h.zj,⟨m.os.trans h.k0.os,m.tape.trans h.k0.tape,m.output.trans h.k0.output,by rw[LP];exact iG h.k0.size m.size,λk hk _=>?_⟩,λk hk=>by rw[LP];exact h.lo k hk⟩,LP⟩;rw[LP] at hk
 by_cases hkg:k=g
 ·subst hkg
  rw[Fg];show _=(W0.heap.setIfInBounds k ob)[k]?;rw[Array.getElem?_setIfInBounds];simp[hk]
 ·rw[m.block k (nM hk h.k0.size) hkg,h.k0.block k hk id]
  show _=(W0.heap.setIfInBounds g ob)[k]?;rw[Array.getElem?_setIfInBounds,if_neg (λe=>hkg e.symm)]
theorem Made.cG{E:qQ}{G:Gr}{a wa n g:Nat}{c:wQ}{w0 w1 W0 w' w2:aH}{S':BS}{W:jF}(h:Made E G a wa n c w1 W0 w' S' W)(m:aY (λk=>k=g) w' w2)(o:Cfb W0 g)(hg:g<w1.heap.size)(h0:w0.heap.size<=g)(hk:aN w0 w1):∃W0',Made E G a wa n c w0 W0' w2 S' W/\W0'.heap.size=W0.heap.size:=by
 obtain⟨W0',hb,LP⟩:=h.b.chg m o;have hx:iI (λk=>k=g) E.e a wa W w' S':=h.x.SN h.gR;exact⟨W0',⟨(hx.ov m λk hk=>⟨hk,λhs=>by have:=h.lo k hs;have lT:k=g:=hk;omega⟩).SN h.gR,hb,(hk.tr h.k).fresh m λk e=>by rw[show k=g from e];exact h0,h.ok,λk lT=>iG hk.size (h.lo k lT),h.w⟩,LP⟩
theorem aBc{l cG:Sl}{xs cs:List Int}{tF:Int}{w:aH}{Q:GT->Int×Int×Int×Int×Int×Int×Unit->cO->Int->aH->Prop}(hl:Rd w l 1 eI xs)(hc:Rd w cG 1 eI cs)
  (hQ:∀(g:GT) G c n E a wa W0 w' S' W,(g.1.l=G.n/\g.2.1.l=G.m)->xJ G->c.Ok->Made E G a wa n c w W0 w' S' W->1<=n/\n<=4->(n:Int)=1+tF%4->Q g (wO c) (some ⟨wa,0,none⟩) (n:Int) w'):KC l cG tF w Q:=by
 unfold KC;refine bP λw1 o1 k1 z1=>?_;refine cD (cs:=JH ⟨0,0,0,0,0,0⟩) λw2 b2 k2 z2=>?_;have K2:=k1.tr k2;refine Town_i (hl.aL K2 dA λ_ _=>id) λg G w3 hg ok hn k3=>?_;refine Small_i (hc.aL (K2.tr k3) dA λ_ _=>id) λc w4 KT k4=>?_;refine bP λw5 o5 k5 z5=>?_;refine cD (cs:=JH ⟨0,0,0,0,0,0⟩) λw6 b6 k6 z6=>?_;refine fD (vs:=Au g) (o5.aL k6 id) yR rfl (Xx g) λw7 o7 m7 _=>?_;refine fD (vs:=JH c) ((b6.1).aL m7 λe=>by have e':w5.heap.size=w4.heap.size:=e;omega) yQ rfl (by intro u hu;simp at hu;rcases hu with rfl|rfl|rfl|rfl|rfl|rfl<;>rfl) λw8 o8 m8 _=>?_;have o7':=o7.aL m8 λe=>by have e':w4.heap.size=w5.heap.size:=e;omega
 have K8:aN w4 w8:=((k5.tr k6).fresh m7 λk (e:k=w4.heap.size)=>aB).fresh m8 λk (e:k=w5.heap.size)=>aB;refine Ub aB aB ?_;have hd0:=Int.emod_nonneg tF (show(4:Int)≠0 by omega);have hd1:=Int.emod_lt_of_pos tF (show(0:Int)<4 by omega);obtain⟨n,gH⟩:∃n:Nat,(n:Int)=1+tF%4:=⟨(1+tF%4).toNat,aB⟩;rw[gV aB aB,<-gH];refine bJ (l:=[.slice,.slice,.slice]) g (KY (g:=g) o7') (bJ (l:=JF) (wO c) (o8.holds λj v hj=>by rw[pU];exact hj) ?_);have Kg:=k4.tr K8;have KW:=(k3.tr k4).tr K8;refine NewW_i (g:=g) (hg.aO Kg) ok KT aB λE a wa W0 eY GA W hM kW0=>aF (λh=>by cases h) (λ_=>?_);have KM:=hM.k;have d10:=bO eY;have hM1:=hM.aO d10;have o7d:=(o7'.aL KM id).aL d10 id;have o8d:=(o8.aL KM id).aL d10 id;refine bJ (l:=[.slice,.slice,.slice]) g (KY (g:=g) o7d) (bJ (l:=JF) (wO c) (o8d.holds λj v hj=>by rw[pU];exact hj) ?_);have o1W:cW W0 w.heap.size gP [sv bD,sv bD,sv bD]:=(((o1.aL k2 id).aL KW id).aL kW0 id);have o1x:cW eY.drew w.heap.size gP [sv bD,sv bD,sv bD]:=((((o1.aL k2 id).aL KW id).aL KM id).aL d10 id);have zz:=KW.size;have z48:=K8.size;have z34:=k4.size;have z3:=k3.size;refine fD (vs:=Au g) o1x yR rfl (Xx g) λgQ o13 gk _=>?_;obtain⟨W1,hM2,vY⟩:=hM1.cG (w0:=w) gk ⟨_,_,o1W,.inr rfl⟩ aB (iX _) (K2.tr KW);refine⟨(o8d.aL gk λe=>by have e':w5.heap.size=w.heap.size:=e;omega).holds λj v hj=>by rw[pU];exact hj,?_⟩;have b2x:cW gQ w1.heap.size xL (JH ⟨0,0,0,0,0,0⟩):=((((b2.1).aL KW id).aL KM id).aL d10 id).aL gk λe=>by have e':w1.heap.size=w.heap.size:=e;omega
 have b2W:cW W1 w1.heap.size xL (JH ⟨0,0,0,0,0,0⟩):=by
  have h1:w1.heap.size<W1.heap.size:=by rw[vY];have:=kW0.size;omega
  have:=hM2.b.k0.block w1.heap.size h1 id;unfold cW;rw[<-this];exact b2x
 refine fD (vs:=JH c) b2x yQ rfl (by intro u hu;simp at hu;rcases hu with rfl|rfl|rfl|rfl|rfl|rfl<;>rfl) λmQ o14 YM _=>?_;obtain⟨W2,RX,IT⟩:=hM2.b.chg YM ⟨_,_,b2W,.inl rfl⟩;have hx14:iI (λk=>k=w1.heap.size) E.e a wa W gQ GA:=hM2.x.SN hM2.gR;have S10lo:∀k,GA k->w8.heap.size<=k:=hM.lo;have hM3:Made E G a wa n c w W2 mQ GA W:=⟨(hx14.ov YM λk hk=>⟨hk,λhs=>by have:=S10lo k hs;have lT:k=w1.heap.size:=hk;omega⟩).SN hM2.gR,RX,hM2.k.fresh YM λk e=>by rw[show k=w1.heap.size from e];omega,hM2.ok,hM2.lo,hM2.w⟩;have o13':=o13.aL YM λe=>by have e':w.heap.size=w1.heap.size:=e;omega
 refine bJ (l:=[.slice,.slice,.slice]) g (KY (g:=g) o13') (bJ (l:=JF) (wO c) (o14.holds λj v hj=>by rw[pU];exact hj) ?_);exact hQ g G c n E a wa W2 mQ GA W ⟨hg.nd.len,hg.ed.len⟩ ok KT hM3 aB gH
theorem ev_row{g:Nat}{ev:IV}{sl:Sl}{w:aH}{P:BS}(o:cW w g Si (rz (ev,sl)))(hr:Rd w sl 1 eU ev.Wc)(hs:∀b,sl.b=some b->P b.block/\b.block<w.heap.size)(hg:P g):RowE P w ⟨some ⟨g,0,none⟩,1,1⟩ [ev]:=
 ⟨[(ev,sl)],rfl,(dP.new uc [(ev,sl)] (by simpa using o) (by simp[maxLen])).rd uc,λb hb=>by cases hb;exact⟨hg,o.lt⟩,λx hx=>by rw[kZ.1 hx];exact⟨hr,hs⟩⟩
theorem ij.one{G:Gr}{W:jF}{ev:IV}{W':jF}{hs:List vB}(h:ij G W [ev] W' hs):JK G W ev W' hs:=by
 generalize hl:[ev]=l at h;cases h with
 |nil=>cases hl
 | @gS PY W1 vY ev2 W2 IT h1 h2=>
  have fW:PY=[]:=by
   have:=congrArg List.length hl;simp at this;exact this
  subst fW;have:ev=ev2:=by simpa using hl
  subst this;generalize he:([]:List IV)=l' at h1;cases h1 with
  |nil=>simpa using h2
  |gS a b=>simp at he
theorem nz{G:Gr}{W:jF}{ev:IV}{W':jF}{hs:List vB}{x:cH}{r:List cH}(h:JK G W ev W' hs)(hk:ev.kind=11)(hd:ev.d=0)(LQ:0<W.ds.length)(hr:ev.Wc=x::r)(hx:x≠BitVec.ofNat 8 77):W'=W/\hs=[]:=by
 obtain⟨v',ps,YS,rfl⟩:=(h.2.2.2 (.inr hk) ⟨aB,aB⟩).2 hk;rcases YS with⟨hn,_⟩|⟨g,e,Dt,hc⟩
 ·exact absurd ⟨aB,aB⟩ hn
 ·rcases hc with⟨_,rfl,rfl,rfl⟩|⟨hg,_⟩
  ·exact⟨by unfold jF.add;simp,rfl⟩
  ·exact absurd hg.1 (Dt.nf x r hr hx)
theorem Ep{K:jF->IV->Prop}(jA:Yc K)(hK:∀W ev,ev.kind=11->K W ev){w:aH}{Q:Bool->aH->Prop}(hQ:∀w',aN w w'->Q true w'):rD w Q:=by
 unfold rD;refine cD (cs:=[aD 3,aD 3,aD 5]) λw1 b1 k1 z1=>?_;refine cD (cs:=[aD 1,aD 2,aD 3]) λw2 b2 k2 z2=>?_;refine aBc (jN fM [3,3,5] (bF.kp b1 k2) rfl dJ) (jN fM [1,2,3] b2 rfl dJ) λg G c n E a wa W0 w3 S3 W hg ok KT hM hn gH=>?_;refine bP λw4 o4 k4 z4=>?_;refine cD (cs:=JH ⟨0,0,0,0,0,0⟩) λw5 b5 k5 z5=>?_;refine fD (vs:=Au g) (o4.aL k5 id) yR rfl (Xx g) λw6 o6 m6 _=>?_;refine fD (vs:=JH c) ((b5.1).aL m6 λe=>by have e':w4.heap.size=w3.heap.size:=e;omega) yQ rfl (by intro u hu;simp at hu;rcases hu with rfl|rfl|rfl|rfl|rfl|rfl<;>rfl) λw7 o7 m7 _=>?_;have K7:aN w3 w7:=((k4.tr k5).fresh m6 λk (e:k=w3.heap.size)=>aB).fresh m7 λk (e:k=w4.heap.size)=>aB;have hM7:=hM.aO K7;have hn2:n=2:=aB;subst hn2;refine aF (λh=>by cases h) (λ_=>?_);refine BZ CR (aX:=eU) (0:cH) rfl Rm aB (lM _) aB aB λw8 v8 k8=>?_;have e200:Int.toNat 200=200:=rfl;rw[e200] at v8 ⊢;obtain⟨s1,vY⟩:∃s1:Sl,s1=⟨some ⟨w7.heap.size,0,none⟩,200,200⟩:=⟨_,rfl⟩;rw[<-vY] at v8 ⊢;have ON:s1.b=some ⟨w7.heap.size,0,none⟩:=by rw[vY]
 have s1l:s1.l=200:=by rw[vY]
 have hM8:=hM7.aO k8;have z8:w7.heap.size<w8.heap.size:=v8.lt ON;have SN:=hM.gR;have FY:W.ds.length=2:=hM.ok.len.1;have lt3:=hM.x.lt;have z7:=K7.size;obtain⟨sp,tp,lp,dsl0,ds0,hWe,hds0⟩:=hM.w;have rX:W.v.t.aT=[]:=by rw[hWe];rfl
 have LK:W.v.dL=0:=by rw[hWe];rfl
 have n8:∀k,BL s1 k->¬S3 k:=λk ⟨b,hb,e⟩ hs=>by rw[ON] at hb;cases hb;have:=lt3 k hs;have e':k=w7.heap.size:=e;omega
 refine bK (λcc t w9=>∃(i:Nat) (bs:List cH) (S9:BS),i<=5/\cc=5-i/\t=((i:Int),())/\iI (λ_=>False) E.e a wa W w9 S9/\Bs W0 E G S9 w9/\UZ G (16*i) 2 W/\dP w9 Gh 1 eU s1 bs/\bs.length=200/\(∀k,BL s1 k->¬S9 k)/\aN w w9/\(∀k,S9 k->w.heap.size<=k)) 5
  ⟨0,List.replicate 200 0,S3,aB,rfl,rfl,hM8.x,hM8.b,hM.ok.mono aB,v8,List.length_replicate,n8,((k1.tr k2).tr hM.k).tr (K7.tr k8),λk hk=>iG (k1.tr k2).size (hM.lo k hk)⟩ ?_
 rintro cc t w9 ⟨i,bs,S9,hi,rfl,rfl,x9,b9,ok9,v9,DM,n9,kw9,lo9⟩ X hX;dsimp only;refine aJ (λcL=>?_) (λlK=>?_)
 ·have hi5:i<5:=aB
  refine⟨⟨aB,by rw[s1l];omega⟩,aA ON ?_⟩;have hw:wrap .u8 (i:Int)=(((BitVec.ofNat 8 i).toNat:Nat):Int):=by
   have:i=0\/i=1\/i=2\/i=3\/i=4:=aB;rcases this with rfl|rfl|rfl|rfl|rfl<;>rfl
  rw[hw];refine v9.store Rm ON (i:=0) aB (BitVec.ofNat 8 i) (v:=.int .u8 (((BitVec.ofNat 8 i).toNat:Nat):Int)) rfl aAB (oneU _) λeY v10 YN _=>?_;have mB:∀k,k=w7.heap.size->BL s1 k:=λk e=>⟨_,ON,e⟩;have aAe:aY (BL s1) w9 eY:=YN.mono λk _ hk=>mB k hk;have xN:iI (BL s1) E.e a wa W w9 S9:=x9.SN SN;have sL:iI (λ_=>False) E.e a wa W eY S9:=(xN.ov aAe λk hk=>⟨hk,n9 k hk⟩).SN SN;have zb:W0.heap.size<=w7.heap.size:=iG hM.b.k0.size z7;have b10:Bs W0 E G S9 eY:=⟨b9.zj,b9.k0.fresh YN λk hk=>by rw[show k=w7.heap.size from hk];exact zb,b9.lo⟩
  let ev:IV:=⟨11,0,0,0,bs.set 0 (BitVec.ofNat 8 i)⟩
  refine cD (cs:=rz (ev,s1)) λeN b11 LF z11=>?_;have xW:=sL.kp LF;have lt9:=sL.lt;have v11:=v10.aL LF λ_ _=>id;have rL:RowE (λk=>¬S9 k/\k<eN.heap.size) eN ⟨some ⟨eY.heap.size,0,none⟩,1,1⟩ [ev]:=ev_row b11.1 (v11.rd Rm) (λb hb=>⟨⟨n9 _ ⟨b,hb,rfl⟩,v11.lt hb⟩,v11.lt hb⟩) ⟨λhs=>by have:=lt9 _ hs;omega,aB⟩;refine do_i jA (λW1 e he _=>hK _ _ (by rw[kZ.1 he])) xW (λ_ h=>h.elim) (b10.kp LF) ok9 (by simp;omega) dJ (by rw[SN];simp) (by rw[LK];simp) rL (λe he=>by rw[kZ.1 he];show(bs.set 0 _).length<=5000;rw[pR];omega) λrh hs W' eQ YJ g12 hdo=>?_;have h1:=hdo.one;have hne0:bs≠[]:=λh=>by rw[h] at DM;simp at DM
  obtain⟨rfl,rfl⟩:=nz h1 rfl rfl aB (x:=BitVec.ofNat 8 i) (r:=bs.tail) (by show bs.set 0 _=_;cases bs with
   |nil=>exact absurd rfl hne0
   |cons y ys=>rfl) (by
    have:i=0\/i=1\/i=2\/i=3\/i=4:=aB;rcases this with rfl|rfl|rfl|rfl|rfl<;>decide)
  have hrl:rh.l=0:=g12.CU.len;refine aF (λh=>by rw[hrl] at h;simp at h) (λ_=>?_);rw[qM i aB];refine hX _ _ _ aB ⟨i+1,bs.set 0 (BitVec.ofNat 8 i),YJ,aB,rfl,rfl,g12.x,(b10.kp LF).up g12.up,g12.ok.mono (by simp;omega),v11.aL g12.up.m λb hb=>n9 _ ⟨b,hb,rfl⟩,by rw[pR];exact DM,λk hk hs=>?_,((kw9.fresh YN λk hk=>by rw[show k=w7.heap.size from hk];exact iG ((k1.tr k2).tr hM.k).size z7).tr LF).fresh g12.up.m λk hk=>lo9 k hk,λk hk=>(g12.up.s k hk).elim (lo9 k) λh=>iG (iG (iG kw9.size YN.size) LF.size) h⟩;rcases g12.up.s k hs with h|h
  ·exact n9 k hk h
  ·obtain⟨b,hb,e⟩:=hk
   have:=v11.lt hb;omega
 ·refine HU x9 (aF (λ_=>HU x9 ?_) (λh=>by cases h))
  obtain⟨S1,rr,_⟩:=x9.Ch;refine Tx rr ok9.v λr eN v11 LF f11=>?_;have hrl:r.l=0:=by rw[v11.len,rX];rfl
  refine aF (λ_=>?_) (λh=>by rw[hrl] at h;simp at h);refine Hg (x9.kp LF) (by rw[SN];simp) (by rw[SN];simp) λr2 eQ YK LO=>?_;have Fe:r2.l=0:=by rw[YK.len,SN];rfl
  rw[Fe];exact hQ eQ ((kw9.tr LF).tr LO)
theorem clsP_rng(ax ay bx mJ:Int):0<=Rw ax ay bx mJ/\Rw ax ay bx mJ<=8:=by
 unfold Rw
 repeat' split
 all_goals omega
theorem Pd{G:Gr}(ok:xJ G):∀(l:List Int) (a:Int),(∀x∈l,G.pP x)->(0<=(G.kD a l).1/\(G.kD a l).1<=9)/\(-1<=(G.kD a l).2.1/\(G.kD a l).2.1<51)/\0<=(G.kD a l).2.2/\(G.kD a l).2.2<=40*l.length
 | [],a,_=>by
  show((0:Int)<=9/\(9:Int)<=9)/\((-1:Int)<=-1/\(-1:Int)<51)/\(0:Int)<=0/\(0:Int)<=40*(0:Nat);omega
 |e::l,a,h=>by
  have he:=h e (ly50 ..);obtain⟨i1,i2,i3⟩:=Pd ok l e λx hx=>h x (VD _ hx);have w1:=ok.w1 he;have hm:=ok.m1;have hb:0<=G.Rz a e/\G.Rz a e<=8:=clsP_rng _ _ _ _;have uM:0<=e/\e<(G.m:Int):=he;rw[Gr.kD,mV]
  split
  ·show(0<=G.Rz a e/\G.Rz a e<=9)/\(-1<=e/\e<51)/\(0:Int)<=0/\(0:Int)<=40*((l.length+1:Nat):Int)
   omega
  ·show(0<=(G.kD e l).1/\(G.kD e l).1<=9)/\(-1<=(G.kD e l).2.1/\(G.kD e l).2.1<51)/\0<=G.wt e+(G.kD e l).2.2/\G.wt e+(G.kD e l).2.2<=40*((l.length+1:Nat):Int)
   omega
theorem Dz{k:Int}(h:k=4\/k=6\/k=8):sO (QT k):=by
 rcases h with rfl|rfl|rfl<;>exact⟨by simp[QT],by simp[QT],by simp[QT],by simp[QT],by simp[QT],by simp[QT]⟩
theorem wf_open{a n:Int}(ha:u16 a)(hn:u16 n):sO (GR a n):=
 ⟨by simp,by simpa using ha,by simpa using hn,by simp,by simp,by simp⟩
theorem wf_route{l:List Int}{w:Int}(hl:l.length<=51)(hE:∀e∈l,u16 e)(hw:u40 w):sO (sK l w):=
 ⟨by simp[sK],by simp[sK],by simp[sK],by simp only[sK];rw[if_pos trivial];exact⟨aB,hE⟩,by simpa [sK] using hw,by simp[sK]⟩
theorem wf_next{h:MQ}(h1:0<=h.cls/\h.cls<256)(h2:u16 (h.mC+1))(h3:u40 h.sE)(h4:u40 h.left):sO (ML h):=
 ⟨by simp[ML],by simp[ML],by simp[ML],by simp[ML],by simp[ML],by simp only[ML];rw[if_pos trivial];exact⟨h1,h2,h3,h4⟩⟩
def Sm(m:iJ):Prop:=sO m/\m.cJ.length<=51
theorem hintS_wf{G:Gr}(ok:xJ G){p:FZ}(hE:∀x∈p.lL,G.pP x)(hl:p.lL.length<=51):∃m,(nX G p).2=[m]/\Sm m:=by
 unfold nX
 split
 ·exact⟨_,rfl,Dz (.inr (.inr rfl)),iF _⟩
 ·obtain⟨h1,h2,h3⟩:=Pd ok p.lL p.pos hE
  have h4:=Hj ok hE;refine⟨_,rfl,wf_next ⟨h1.1,?_⟩ ⟨?_,?_⟩ ⟨h3.1,?_⟩ ⟨h4.1,?_⟩,iF _⟩
  ·show(G.kD p.pos p.lL).1<256;omega
  ·show 0<=(G.kD p.pos p.lL).2.1+1;omega
  ·show(G.kD p.pos p.lL).2.1+1<65536;omega
  ·show(G.kD p.pos p.lL).2.2<1099511627776;omega
  ·show G.oY p.lL<1099511627776;omega
theorem ask_wf{G:Gr}(ok:xJ G){c:List Bool}{p:FZ}{z:FZ×List iJ}(h:VP G c p z):z.2=[HE]/\Sm HE\/∃l w m,z.2=[sK l w,m]/\Sm (sK l w)/\Sm m:=by
 obtain⟨l,w,f,r,ha,rfl⟩:=h;obtain⟨f1,f2,f3,f4⟩:=ha.QY ok;unfold Xc;cases f with
 |false=>exact .inl ⟨rfl,Dz (.inr (.inl rfl)),iF _⟩
 |true=>
  have h4:=Hj ok f1;obtain⟨m,hm,sm⟩:=hintS_wf ok (p:={p with lL:=l,dK:=true}) f1 f2;have ra:=ok.m1;refine .inr ⟨l,w,m,?_,⟨wf_route f2 (λe he=>?_) ?_,f2⟩,sm⟩
  ·show sK l w::(nX G {p with lL:=l,dK:=true}).2=_
   rw[hm]
  ·have:=f1 e he
   have e':0<=e/\e<(G.m:Int):=this;exact⟨e'.1,aB⟩
  ·have hw:=(f3 rfl).2
   rw[hw];exact⟨h4.1,aB⟩
theorem Hy{m:iJ}(h:Sm m):(kS m).length<=200:=by
 unfold kS;rw[mH,pH];have:=h.2
 repeat' split
 all_goals simp only[mH,pH,Pg,List.length_nil]
 all_goals omega
abbrev Mf(aK a:Int):eR:=⟨aK,2,0,a,0,[]⟩
abbrev Mc(aK k nx:Int)(b:List cH):eR:=⟨aK,1,k,nx,0,b⟩
abbrev iv(aK code:Int):eR:=⟨aK,3,0,0,code,[]⟩
theorem Se{aK a:Int}(hc:u32 aK)(ha:u32 a):Re (Mf aK a):=⟨.inr (.inl rfl),hc,by simp,by simpa using ha,by simp,by simp⟩
theorem Sd{aK k nx:Int}{b:List cH}(hc:u32 aK)(hk:u32 k)(hn:u32 nx)(hb:b.length<=200):Re (Mc aK k nx b):=⟨.inl rfl,hc,by simpa using hk,by simpa using hn,by simp,by simp only;rw[if_pos trivial];omega⟩
theorem wf_rst{aK code:Int}(hc:u32 aK)(ha:0<=code/\code<256):Re (iv aK code):=⟨.inr (.inr rfl),hc,by simp,by simp,by simpa using ha,by simp⟩
theorem Je{c:jH}(h1:c.s.gE=false)(h2:c.gB=[])(h3:c.s.n<c.s.cM)(b:List cH):c.push b=([⟨c.aK,1,c.s.next,c.t.next,0,b⟩],⟨c.s.send b,c.aK,c.t,[]⟩,0):=by
 unfold jH.push;rw[if_neg (by rw[h1];simp),if_neg (by rw[h2];simp)];have hp:({c with gB:=c.gB++[b]}:jH).oD=([⟨c.aK,1,c.s.next,c.t.next,0,b⟩],⟨c.s.send b,c.aK,c.t,[]⟩):=by
  show jH.LX c.s c.aK c.t.next c.t (c.gB++[b])=_
  rw[h2];show jH.LX c.s c.aK c.t.next c.t [b]=_
  rw[jH.LX,if_pos ⟨h1,h3⟩];rfl
 rw[hp]
def VW(aK nx:Int):Int->List (List cH)->List eR
 |_,[]=>[]
 |k,b::r=>Mc aK k nx b::VW aK nx (k+1) r
def VR:OQ->List (List cH)->OQ
 |s,[]=>s
 |s,b::r=>VR (s.send b) r
theorem Bn:∀(bs:List (List cH)) (s:OQ),(VR s bs).gE=s.gE/\(VR s bs).cM=s.cM/\(VR s bs).next=s.next+bs.length
 | [],s=>⟨rfl,rfl,by simp[VR]⟩
 |b::r,s=>by
  obtain⟨h1,h2,h3⟩:=Bn r (s.send b);refine⟨h1,h2,?_⟩;show(VR (s.send b) r).next=_
  rw[h3,mV];show s.next+1+(r.length:Int)=_
  omega
theorem Yi:∀(bs:List (List cH)) (s:OQ) (aK:Int) (t:Vz),s.gE=false->s.n+bs.length<=s.cM->Cq ⟨s,aK,t,[]⟩ false bs=(VW aK t.next s.next bs,⟨VR s bs,aK,t,[]⟩,false)
 | [],s,aK,t,_,_=>rfl
 |b::r,s,aK,t,h1,h2=>by
  rw[mV] at h2;rw[Cq,Je (c:=⟨s,aK,t,[]⟩) h1 rfl (by show s.n<s.cM;omega)];have ih:=Yi r (s.send b) aK t h1 (by show s.n+1+r.length<=s.cM;omega);show([Mc aK s.next t.next b]++(Cq ⟨s.send b,aK,t,[]⟩ false r).1,(Cq ⟨s.send b,aK,t,[]⟩ false r).2)=_
  rw[ih];rfl
structure YZ(aK nx nt lo:Int)(c:jH):Prop where
 gE:c.s.gE=false
 gB:c.gB=[]
 aK:c.aK=aK
 next:c.s.next=nx
 tn:c.t.next=nt
 tf:∀x,c.t.f x=none
 tw:0<c.t.cM
 uW:∀x,c.s.uW x->lo<=x/\x<nx
theorem YZ.quiet{aK nx nt lo:Int}{c:jH}(h:YZ aK nx nt lo c)(hl:nx<=lo):Quiet c:=⟨h.gE,λx hx=>by have:=h.uW x hx;omega,h.gB⟩
theorem YZ.ackd{aK nx nt lo a:Int}{c:jH}{s1:OQ}(h:YZ aK nx nt lo c)(ha:a<=nx)(hr:AckR c.s a s1)(ok:s1.Ok):s1.gE=false/\s1.next=nx/\∀x,s1.uW x->a<=x/\x<nx:=by
 obtain⟨h1,h2,h3,h4,h5,h6⟩:=hr;have hn:s1.next=nx:=h2.trans h.next
 refine⟨h3.trans h.gE,hn,λx hx=>?_⟩;have cL:=h6 (by rw[h.next];omega) x hx
 cases hf:s1.f x with
 |none=>have:=ok.uW x hx;rw[hf] at this;cases this
 |some bs=>have:=(ok.len x bs hf).2.1;omega
theorem YZ.IY{aK nx nt lo a:Int}{c c':jH}{nU:List (List cH)}{gs:List eR}(h:YZ aK nx nt lo c)(ha:a<=nx)(hr:yH c (Mf aK a) nU gs c'):nU=[]/\gs=[]/\YZ aK nx nt a c':=by
 unfold yH at hr;rw[if_neg (by rw[h.gE];simp[h.aK])] at hr;obtain⟨s1,hs,LN,Ao⟩:=hr;rw[if_neg (by show¬(2:Int)=1;omega),h.gB] at Ao;obtain⟨rfl,h1,rfl⟩:=Ao;obtain⟨g1,g2,g3⟩:=h.ackd ha hs LN;exact⟨rfl,h1,g1,rfl,h.aK,g2,h.tn,h.tf,h.tw,g3⟩
theorem YZ.data{aK nx nt lo a:Int}{b:List cH}{c c':jH}{nU:List (List cH)}{gs:List eR}(h:YZ aK nx nt lo c)(ha:a<=nx)(hr:yH c (Mc aK nt a b) nU gs c'):nU=[b]/\gs=[Mf aK (nt+1)]/\YZ aK nx (nt+1) a c':=by
 unfold yH at hr;rw[if_neg (by rw[h.gE];simp[h.aK])] at hr;obtain⟨s1,hs,LN,Ao⟩:=hr;rw[if_pos rfl,h.gB] at Ao;obtain⟨t1,ht,h1,rfl⟩:=Ao;obtain⟨g1,g2,g3⟩:=h.ackd ha hs LN;obtain⟨e1,e2,e3⟩:=ht.one h.tf h.tn.symm h.tw;have en:t1.next=nt+1:=by rw[e2,h.tn]
 refine⟨e1,?_,g1,rfl,h.aK,g2,en,e3,?_,g3⟩
 ·rw[h1,en,h.aK];rfl
 ·show 0<t1.cM
  rw[ht.cM];exact h.tw
theorem chn0_i{cM:Nat}{aK:Int}(hw:1<=cM):YZ aK 0 0 0 (uO cM aK):=⟨rfl,rfl,rfl,rfl,rfl,λ_=>rfl,hw,λ_ h=>h.elim⟩
abbrev dnG(g:eR):wF:=⟨0,false,GU g⟩
abbrev upG(g:eR):wF:=⟨0,true,GU g⟩
theorem kr{gs:List eR}{ps:List Pk}(h:F2 (Wn (0:Int)) gs ps):(∀g∈gs,Re g)->ps.map Lg=gs.map dnG:=by
 induction h with
 |nil=>intro _;rfl
 | @cons g p l m h1 _ ih=>
  intro hw;rw[List.map_cons,List.map_cons,ih λg hg=>hw g (VD _ hg)];obtain⟨p1,p2⟩:=p;obtain⟨e1,e2,e3⟩:=h1;have e4:=e3 (hw _ (ly50 ..));cases e1;cases e4;rfl
theorem gok_up{gs:List eR}{ds:List (List cH)}(h:F2 GOk gs ds):(∀g∈gs,Re g)->ds.map (Nj 0)=gs.map upG:=by
 induction h with
 |nil=>intro _;rfl
 | @cons g p l m h1 _ ih=>
  intro hw;rw[List.map_cons,List.map_cons,ih λg hg=>hw g (VD _ hg)];obtain⟨e2,e3⟩:=h1;have e4:=e3 (hw _ (ly50 ..));cases e4;rfl
section
theorem recv_n{c c':jH}{g:eR}{nU:List (List cH)}{gs:List eR}(ho:c.gB=[])(hr:yH c g nU gs c'):c'.s.n<=c.s.n/\c'.s.cM=c.s.cM:=by
 unfold yH at hr
 split at hr
 ·obtain⟨_,_,rfl⟩:=hr;exact⟨iX _,rfl⟩
 ·obtain⟨s1,hs,_,Ao⟩:=hr
  have hw:s1.n<=c.s.n/\s1.cM=c.s.cM:=⟨hs.2.2.2.1,hs.1⟩;rw[ho] at Ao
  split at Ao
  ·obtain⟨t1,_,_,rfl⟩:=Ao;exact hw
  ·obtain⟨_,_,rfl⟩:=Ao;exact hw
theorem np{V:gW}{p:Nat}{c:jH}(h:V.ch p=c):V.kC p c=V:=by
 subst h;have:(λq=>if q=p then V.ch p else V.ch q)=V.ch:=by
  funext q
  by_cases hq:q=p
  ·rw[if_pos hq,hq]
  ·rw[if_neg hq]
 show({V with ch:=λq=>if q=p then V.ch p else V.ch q}:gW)=V
 rw[this]
theorem aAF{V:gW}{p:Nat}{c c':jH}:(V.kC p c).kC p c'=V.kC p c':=by
 have:(λq=>if q=p then c' else(if q=p then c else V.ch q))=λq=>if q=p then c' else V.ch q:=by
  funext q
  by_cases hq:q=p
  ·rw[if_pos hq,if_pos hq]
  ·rw[if_neg hq,if_neg hq,if_neg hq]
 show({V with ch:=λq=>if q=p then c' else(if q=p then c else V.ch q)}:gW)=_
 rw[this];rfl
theorem Hn{V:gW}{p:Nat}{c:jH}:(V.kC p c).ch p=c:=if_pos rfl
theorem idx0{l:Nat}(h:0<l):Fv 0 l=0:=by
 unfold Fv;rw[Int.zero_tmod,Int.zero_add,Int.tmod_self];rfl
abbrev yE:IV:=⟨1,0,0,0,[]⟩
abbrev Em(a v:Int):IV:=⟨7,0,v,a,[]⟩
abbrev evTick:IV:=⟨4,0,0,0,[]⟩
section
variable{G:Gr}{W W':jF}{hs:List vB}{u:wF}{cR:List wF}{d:Nat}
theorem WH(h:JK G W yE W' hs)(hb:W.gR=u::cR):Mm G {W with gR:=cR} u W' hs:=by
 rcases h.1 (.inl rfl) with⟨h0,_⟩|⟨u',hu,Ao⟩
 ·rw[hb] at h0;cases h0
 ·have hi:Fv yE.n W.gR.length=0:=idx0 (by rw[hb];simp)
  rw[hi] at hu Ao;rw[if_neg (show¬(1:Int)=3 by omega),if_neg (show¬(1:Int)=2 by omega)] at Ao;rw[hb] at hu;cases hu;have:W.rem 0={W with gR:=cR}:=by unfold jF.rem;rw[hb];rfl
  rw[this] at Ao;exact Ao
theorem mj{dv:yY}(h:Mm G W u W' hs)(hu:u.up=false)(hd:u.d=0)(LQ:W.ds=[(d,dv)]):∃pQ ds ms,Td dv u.data pQ ds ms/\W'=({W with ds:=[(d,pQ)]}:jF).add (ds.map (Nj 0))/\hs=ms.map λm=>⟨0,pQ.aK,false,m⟩:=by
 unfold Mm at h;rw[if_neg (by rw[hu];simp),hd,LQ] at h;rcases h with⟨h1,_⟩|⟨d1,dv1,pQ,ds,ms,h1,_,h2,h3,h4⟩
 ·exact absurd ⟨lM _,by simp⟩ h1
 ·have h1':some (d,dv)=some (d1,dv1):=h1
  cases h1';exact⟨pQ,ds,ms,h2,h3,h4⟩
theorem arr_up(h:Mm G W u W' hs)(hu:u.up=true):∃v' ps,Bg G W.v u.d u.data v' ps hs/\W'=({W with v:=v'}:jF).add (ps.map Lg):=by
 unfold Mm at h;rwa[if_pos hu] at h
theorem Zd{dv pQ:yY}{g0:eR}{ds:List (List cH)}{ms:List iJ}{p:Nat}{c:jH}(h:Td dv (GU g0) pQ ds ms)(wf:Re g0)(hl:dv.lE=true)(hc:g0.aK=dv.aK)(hk:g0.kind≠3)(Lb:dv.ch=some (p,c)):
  ∃nU gs c' LV lL dK,yH c g0 nU gs c'/\F2 GOk gs ds/\F2 (λb x=>aAo b x.1 x.2) nU LV/\ms=TK LV/\pQ=({dv with ch:=some (p,c')}:yY).Nz lL dK:=by
 obtain⟨g,e,hg,MO⟩:=h;obtain⟨rfl,rfl⟩:=hg.ok _ wf rfl;have Fz:Gz dv g 0:=⟨rfl,hl,hc⟩;rcases MO with⟨hn,_⟩|⟨_,h3,_⟩|⟨_,_,p1,c1,nU,gs,c',LV,lL,dK,h1,h2,_,h4,h5,h6,h7⟩
 ·exact absurd Fz hn
 ·exact absurd h3 hk
 ·rw[Lb] at h1;cases h1
  exact⟨nU,gs,c',LV,lL,dK,h2,h4,h5,h6,h7⟩
structure Cv(V:gW)(aK:Int)(L:Nat)(i la j:Int)(d:Nat)(W:jF):Prop where
 ds:∃dv p c,W.ds=[(d,dv)]/\dv.lE=true/\dv.aK=aK/\dv.ch=some (p,c)/\YZ aK 1 i la c
 v:∃c,W.v=V.kC 0 c/\YZ aK L 1 j c
structure VI(V:gW)(aK:Int)(en:cV):Prop where
 aT:V.t.aT=[en]
 aM:en.aM=0
 cn:en.aK=aK
 sf:1<=aK/\aK<=1000001
theorem Md{aK:Int}(h:1<=aK/\aK<=1000001):u32 aK:=⟨aB,aB⟩
variable{V:gW}{aK:Int}{en:cV}{L:Nat}{i la j:Int}
theorem cv_ack(vi:VI V aK en)(h:Cv V aK L i la j d W)(hb:W.gR=dnG (Mf aK 1)::cR)(ho:JK G W yE W' hs):Cv V aK L i 1 j d W'/\W'.gR=cR/\hs=[]:=by
 obtain⟨⟨dv,p,c,LQ,hl,YO,Lb,hi⟩,hv⟩:=h;obtain⟨pQ,ds,ms,hr,rfl,rfl⟩:=mj (WH ho hb) rfl rfl LQ;obtain⟨nU,gs,c',LV,lL,dK,Fe,rj,hdec,rfl,rfl⟩:=Zd hr (Se (Md vi.sf) ⟨aB,aB⟩) hl YO.symm (by show(2:Int)≠3;omega) Lb;obtain⟨rfl,rfl,dF⟩:=hi.IY (lM 1) Fe;cases rj;cases hdec;exact⟨⟨⟨_,p,c',rfl,hl,YO,rfl,dF⟩,hv⟩,by simp[jF.add],rfl⟩
theorem cv_data{m:iJ}(vi:VI V aK en)(h:Cv V aK L i la j d W)(hi0:0<=i/\i<1000)(hm:Sm m)(hb:W.gR=dnG (Mc aK i 1 (kS m))::cR)(ho:JK G W yE W' hs):Cv V aK L (i+1) 1 j d W'/\W'.gR=cR++[upG (Mf aK (i+1))]/\hs=[⟨0,aK,false,m⟩]:=by
 obtain⟨⟨dv,p,c,LQ,hl,YO,Lb,hi⟩,hv⟩:=h;obtain⟨pQ,ds,ms,hr,rfl,rfl⟩:=mj (WH ho hb) rfl rfl LQ;have hml:=Hy hm;obtain⟨nU,gs,c',LV,lL,dK,Fe,rj,hdec,rfl,rfl⟩:=Zd hr (Sd (Md vi.sf) ⟨aB,aB⟩ ⟨aB,aB⟩ hml) hl YO.symm (by show(1:Int)≠3;omega) Lb;obtain⟨rfl,rfl,dF⟩:=hi.data (lM 1) Fe;have Vo:=gok_up rj λg hg=>by rw[kZ.1 hg];exact Se (Md vi.sf) ⟨aB,aB⟩
 cases hdec with
 |cons h1 h2=>
  cases h2;obtain⟨e1,e2⟩:=h1.ok _ hm.1 rfl;refine⟨⟨⟨_,p,c',rfl,hl,YO,rfl,dF⟩,hv⟩,?_,?_⟩
  ·show cR++ds.map (Nj 0)=_
   rw[Vo];rfl
  ·unfold TK
   rw[FB,if_pos (by rw[e2];rfl)];show [(⟨0,dv.aK,false,Prod.fst _⟩:vB)]=_;rw[e1,YO]
theorem cv_up{a:Int}(vi:VI V aK en)(h:Cv V aK L i la j d W)(ha:0<=a/\a<=L)(hL:L<=1000)(hb:W.gR=upG (Mf aK a)::cR)(ho:JK G W yE W' hs):Cv V aK L i la a d W'/\W'.gR=cR/\hs=[]:=by
 obtain⟨LQ,c,hv,hi⟩:=h;obtain⟨v',ps,hr,rfl⟩:=arr_up (WH ho hb) rfl;have No:Bg G W.v 0 (GU (Mf aK a)) v' ps hs:=hr;have sf:=vi.sf;rcases No with⟨hn,_⟩|⟨g,e,hg,MO⟩
 ·exact absurd ⟨lM _,aB⟩ hn
 ·obtain⟨rfl,rfl⟩:=hg.ok _ (Se (Md vi.sf) ⟨aB,aB⟩) rfl
  rcases MO with⟨hn,_⟩|⟨_,hB|hE⟩
  ·exact absurd ⟨rfl,by show(2:Int)≠3;omega,by show 1<=aK;omega,by show aK<=2147483648;omega⟩ hn
  ·exact absurd ⟨vi.aM,vi.cn⟩ (hB.1 en (by rw[hv];show en∈V.t.aT;rw[vi.aT];exact kZ.2 rfl))
  ·obtain⟨_,_,_,_,nU,Nr,c1,yy,Ao⟩:=hE
   rw[hv] at yy Ao;rw[show((0:Int).toNat)=0 from rfl] at yy Ao;rw[Hn] at yy;obtain⟨rfl,rfl,dF⟩:=hi.IY ha.2 yy;obtain⟨rfl,Qx,rfl⟩:=Ao rfl;cases Qx;exact⟨⟨LQ,c1,aAF,dF⟩,by simp[jF.add],rfl⟩
end
def Me(aK:Int):Nat->Nat->List wF
 |_,0=>[]
 |j,n+1=>upG (Mf aK ((j+1:Nat):Int))::Me aK (j+1) n
theorem Pz(aK:Int):∀n j,Me aK j n++[upG (Mf aK ((j+n+1:Nat):Int))]=Me aK j (n+1)
 |0,j=>rfl
 |n+1,j=>by
  have e:j+(n+1)+1=j+1+n+1:=aB;rw[e];show _::(Me aK (j+1) n++_)=_::Me aK (j+1) (n+1);rw[Pz aK n (j+1)]
theorem Ik(aK:Int):∀n j,(Me aK j n).length=n
 |0,_=>rfl
 |n+1,j=>by show(Me aK (j+1) n).length+1=_;rw[Ik aK n (j+1)]
theorem ZQ{aK nx:Int}:∀{k:Int} (l:List (List cH)),(VW aK nx k l).length=l.length
 |_,[]=>rfl
 |_,_::r=>by show(VW aK nx _ r).length+1=_;rw[ZQ r];rfl
structure PhA(V:gW)(aK:Int)(d:Nat)(ms:List iJ)(W:jF):Prop where
 cv:Cv V aK ms.length 0 0 0 d W
 gR:W.gR=dnG (Mf aK 1)::(VW aK 1 0 (ms.map kS)).map dnG
structure PhB(V:gW)(aK:Int)(d:Nat)(ms:List iJ)(i:Nat)(W:jF):Prop where
 le:i<=ms.length
 cv:Cv V aK ms.length i 1 0 d W
 gR:W.gR=(VW aK 1 i ((ms.drop i).map kS)).map dnG++Me aK 0 i
structure PhC(V:gW)(aK:Int)(d:Nat)(ms:List iJ)(j:Nat)(W:jF):Prop where
 le:j<=ms.length
 cv:Cv V aK ms.length ms.length 1 j d W
 gR:W.gR=Me aK j (ms.length-j)
section
variable{G:Gr}{W W':jF}{hs:List vB}{d:Nat}{V:gW}{aK:Int}{en:cV}{ms:List iJ}
theorem PhA.step(vi:VI V aK en)(h:PhA V aK d ms W)(ho:JK G W yE W' hs):PhB V aK d ms 0 W'/\hs=[]:=by
 obtain⟨h1,h2,h3⟩:=cv_ack vi h.cv h.gR ho;exact⟨⟨iF _,h1,by rw[h2];show _=_++[];rw[sG];rfl⟩,h3⟩
theorem PhB.step{i:Nat}(vi:VI V aK en)(h:PhB V aK d ms i W)(hm:∀m∈ms,Sm m)(hl:ms.length<=10)(hi:i<ms.length)(ho:JK G W yE W' hs):PhB V aK d ms (i+1) W'/\∃m,ms[i]? =some m/\hs=[⟨0,aK,false,m⟩]:=by
 obtain⟨FX,hcv,VJ⟩:=h;have hd:ms.drop i=ms[i]::ms.drop (i+1):=(List.getElem_cons_drop (h:=hi)).symm;rw[hd,List.map_cons,VW,List.map_cons,List.cons_append] at VJ;obtain⟨h1,h2,h3⟩:=cv_data vi hcv ⟨aB,aB⟩ (hm _ (oE hi)) VJ ho;have e:((i+1:Nat):Int)=(i:Int)+1:=aB;refine⟨⟨hi,?_,?_⟩,ms[i],gU hi,h3⟩
 ·rw[e];exact h1
 ·rw[h2,sH,<-Pz,e,pU,e]
theorem PhB.end(h:PhB V aK d ms ms.length W):PhC V aK d ms 0 W:=
 ⟨iF _,h.cv,by rw[h.gR,List.drop_length];rfl⟩
theorem PhC.step{j:Nat}(vi:VI V aK en)(h:PhC V aK d ms j W)(hl:ms.length<=10)(hj:j<ms.length)(ho:JK G W yE W' hs):PhC V aK d ms (j+1) W'/\hs=[]:=by
 obtain⟨FX,hcv,VJ⟩:=h;obtain⟨n,hn⟩:∃n,ms.length-j=n+1:=⟨ms.length-j-1,aB⟩;rw[hn,Me] at VJ;obtain⟨h1,h2,h3⟩:=cv_up vi hcv ⟨aB,aB⟩ aB VJ ho;exact⟨⟨hj,h1,by rw[h2,show ms.length-(j+1)=n by omega]⟩,h3⟩
theorem ij.snoc_inv{l:List IV}{ev:IV}(h:ij G W (l++[ev]) W' hs):∃W1 h1 h2,ij G W l W1 h1/\JK G W1 ev W' h2/\hs=h1++h2:=by
 generalize he:l++[ev]=l' at h;cases h with
 |nil=>exact absurd he dJ
 |gS h1 h2=>
  obtain⟨rfl,h3⟩:=List.append_inj' he rfl;cases h3;exact⟨_,_,_,h1,h2,rfl⟩
theorem ij.two{e1 e2:IV}(h:ij G W [e1,e2] W' hs):∃W1 h1 h2,JK G W e1 W1 h1/\JK G W1 e2 W' h2/\hs=h1++h2:=by
 obtain⟨W1,h1,h2,a,b,e⟩:=ij.snoc_inv (l:=[e1]) h;exact⟨W1,h1,h2,a.one,b,e⟩
set_option maxHeartbeats 1000000 in
theorem aA8(ok:xJ G){dv:yY}{a v:Int}(h:ij G W [Em a v,yE] W' hs)(VJ:W.gR=[])(LQ:W.ds=[(d,dv)])(rX:W.v.t.aT=[])(hm:1<=W.v.t.eE)(hgr:W.v.t.grI 0<dv.aK+1)(hcfg:dv.cG.cM=W.v.cG.cM)(CZ:3<=W.v.cG.cM)(YO:0<=dv.aK/\dv.aK<=1000000)(ha:G.pP a)(hv:G.UL v)(fm:∀k,(W.v.lf k).getD (false:Bool)=false):
  ∃z en V,VP G (Gk W.v.u) (Wq a v) z/\PhA V (dv.aK+1) d (iU::z.2) W'/\VI V (dv.aK+1) en/\en.kM=W.v.dL/\V.dL=W.v.dL/\V.u=W.v.u/\V.cG=W.v.cG/\V.t.grI 0=dv.aK+1/\V.t.eE=W.v.t.eE/\∀k,(V.lf k).getD (false:Bool)=false:=by
 have ra:=ok.m1;have hn1:=ok.n1;have pE:0<=a/\a<(G.m:Int):=ha;have jY:0<=v/\v<(G.n:Int):=hv;obtain⟨W1,h1,h2,ho1,Vq,_⟩:=h.two;obtain⟨d1,dv1,pQ,ds,hg,BB,rfl,_⟩:=(ho1.2.2.2 (.inl rfl) ⟨lM _,by rw[LQ];simp⟩).1 rfl;rw[LQ] at hg;have ib:some (d,dv)=some (d1,dv1):=hg;cases ib;unfold ZG at BB;rw[if_pos (show(0<=a/\a<=65535)/\0<=v/\v<=65535 by omega)] at BB;obtain⟨p,b,hb,rfl,rj⟩:=BB;have sm0:Sm (GR a v):=⟨wf_open ⟨pE.1,aB⟩ ⟨jY.1,aB⟩,iF _⟩;have bY:=hb sm0.1;subst bY;have DM:=Hy sm0;rw[Je (c:=uO dv.cG.cM (dv.aK+1)) rfl rfl (by show 0<dv.cG.cM;omega)] at rj Vq;have sf:1<=dv.aK+1/\dv.aK+1<=1000001:=aB;have Vo:=gok_up rj λg hg=>by
  rw[kZ.1 hg];exact Sd (aK:=dv.aK+1) (k:=0) (nx:=0) (Md sf) ⟨aB,aB⟩ ⟨aB,aB⟩ DM
 have hW1:(({W with ds:=W.ds.set (0:Int).toNat (d,(⟨dv.cG,some (p,⟨(snd0 dv.cG.cM).send (kS (GR a v)),dv.aK+1,tkr0 dv.cG.cM,[]⟩),dv.aK+1,true,0,a,[],false⟩:yY))}:jF).add (ds.map (Nj 0)))=⟨W.v,[(d,⟨dv.cG,some (p,⟨(snd0 dv.cG.cM).send (kS (GR a v)),dv.aK+1,tkr0 dv.cG.cM,[]⟩),dv.aK+1,true,0,a,[],false⟩)],[upG (Mc (dv.aK+1) 0 0 (kS (GR a v)))],W.row⟩:=by
  rw[Vo,LQ];show(⟨W.v,_,W.gR++_,W.row⟩:jF)=_;rw[VJ];rfl
 have ho2':JK G ⟨W.v,[(d,⟨dv.cG,some (p,⟨(snd0 dv.cG.cM).send (kS (GR a v)),dv.aK+1,tkr0 dv.cG.cM,[]⟩),dv.aK+1,true,0,a,[],false⟩)],[upG (Mc (dv.aK+1) 0 0 (kS (GR a v)))],W.row⟩ yE W' h2:=by
  rw[<-hW1];exact Vq
 obtain⟨v',ps,hr,rfl⟩:=arr_up (WH ho2' rfl) rfl;have No:Bg G W.v 0 (GU (Mc (dv.aK+1) 0 0 (kS (GR a v)))) v' ps h2:=hr;rcases No with⟨hn,_⟩|⟨g,e,Dt,MO⟩
 ·exact absurd ⟨lM _,aB⟩ hn
 obtain⟨rfl,rfl⟩:=Dt.ok _ (Sd (Md sf) ⟨aB,aB⟩ ⟨aB,aB⟩ DM) rfl;rcases MO with⟨hn,_⟩|⟨_,⟨_,hB⟩|hE⟩
 ·exact absurd ⟨rfl,by show(1:Int)≠3;omega,by show 1<=dv.aK+1;omega,by show dv.aK+1<=2147483648;omega⟩ hn
 ·obtain⟨m,e,hmd,PX⟩:=hB
  obtain⟨rfl,rfl⟩:=hmd.ok _ sm0.1 rfl;have sQ:W.v.t.uV 0 (dv.aK+1)=0:=by
   unfold sP.uV;rw[if_neg (by show¬dv.aK+1<=W.v.t.grI 0;omega),if_neg (by rw[rX];simp;omega)]
  have Fz:BegC G W.v 0 (Mc (dv.aK+1) 0 0 (kS (GR a v))) (GR a v) 0:=⟨rfl,rfl,rfl,rfl,sQ,ha,hv⟩;rcases PX with⟨hn,_⟩|⟨_,en,z,nU,Nr,c1,PW,YL,e1,e2,e3,e4,hask,hrv,hp1,Lu,hsaid,z2,z1,rfl,rfl⟩
  ·exact absurd Fz hn
  have e1':en.aM=0:=e1;have hask':VP G (Gk W.v.u) (Wq a v) z:=hask;have hrv':yH (uO W.v.cG.cM (dv.aK+1)) (Mc (dv.aK+1) 0 0 (kS (GR a v))) nU Nr c1:=hrv;obtain⟨rfl,rfl,Vu⟩:=(chn0_i (cM:=W.v.cG.cM) (aK:=dv.aK+1) aB).data (lM 0) hrv';have hcn1:=recv_n rfl hrv';have hsm:∀m∈iU::z.2,Sm m:=by
   intro m hm;rcases jL.1 hm with rfl|hm
   ·exact⟨Dz (.inl rfl),iF _⟩
   ·rcases ask_wf ok hask' with⟨e,s⟩|⟨l,w,m2,e,s1,s2⟩<;>rw[e] at hm
    ·rw[kZ.1 hm];exact s
    ·rcases jL.1 hm with rfl|hm
     ·exact s1
     ·rw[kZ.1 hm];exact s2
  obtain⟨bs,gs,c',lo,lf,ln,Dq,hbs,hsay,hps2,hchs,hlf1,hlf2⟩:=hsaid;have hbs':bs=(iU::z.2).map kS:=by
   clear hsay;have:∀{l:List iJ} {bs:List (List cH)},F2 BOk l bs->(∀m∈l,Sm m)->bs=l.map kS:=by
    intro l bs h
    induction h with
    |nil=>intro _;rfl
    |cons h1 _ ih=>intro hw;rw[List.map_cons,ih λm hm=>hw m (VD _ hm),h1 (hw _ (ly50 ..)).1]
   exact this hbs hsm
  subst hbs';obtain⟨s1,cn1,t1,ow1⟩:=c1;obtain⟨i1,i2,i3,i4,i5,i6,i7,i8⟩:=Vu;cases i2;have i3':cn1=dv.aK+1:=i3;subst i3';have hsay':Cq ⟨s1,dv.aK+1,t1,[]⟩ false ((iU::z.2).map kS)=(gs,c',lo):=by
   rw[<-hsay];have q1:(((W.v.oG en (uO W.v.cG.cM (dv.aK+1)) z.1).kC (0:Int).toNat ⟨s1,dv.aK+1,t1,[]⟩).ch en.aM)=⟨s1,dv.aK+1,t1,[]⟩:=by rw[e1'];exact Hn
   rw[q1];have q2:(((W.v.oG en (uO W.v.cG.cM (dv.aK+1)) z.1).kC (0:Int).toNat ⟨s1,dv.aK+1,t1,[]⟩).lf en.a)=W.v.lf en.a:=rfl;rw[q2,e4]
  have hzl:(iU::z.2).length<=3:=by rw[mV];omega
  have hnw:s1.n+((iU::z.2).map kS).length<=s1.cM:=by
   have q1:s1.n=0:=Nat.le_zero.1 hcn1.1;have q2:s1.cM=W.v.cG.cM:=hcn1.2;rw[q1,q2,lD];omega
  rw[Yi _ _ _ _ i1 hnw] at hsay';cases hsay';have it:t1.next=0+1:=i5
  have is:s1.next=0:=i4
  rw[it,is] at hps2;have hdn2:=kr (gs:=VW (dv.aK+1) (0+1) 0 ((iU::z.2).map kS)) (ps:=YL) (by rw[e1'] at hps2;exact hps2) (by
   have:∀(l:List iJ) (k:Nat),(∀m∈l,Sm m)->k+l.length<=100->∀g∈VW (dv.aK+1) (0+1) k (l.map kS),Re g:=by
    intro l
    induction l with
    |nil=>intro k _ _ g hg;cases hg
    |cons m r ih=>
     intro k hw hk g hg;rw[mV] at hk;rcases jL.1 hg with rfl|hg
     ·exact Sd (Md sf) ⟨aB,aB⟩ ⟨aB,aB⟩ (Hy (hw m (ly50 ..)))
     ·refine ih (k+1) (λm hm=>hw m (VD _ hm)) aB g ?_
      rw[show((k+1:Nat):Int)=(k:Int)+1 by omega];exact hg
   exact this (iU::z.2) 0 hsm aB)
  have hdn1:=kr hp1 (by
   intro g hg;rw[kZ.1 hg];exact Se (aK:=dv.aK+1) (a:=0+1) (Md sf) ⟨aB,aB⟩)
  obtain⟨g1,g2,g3⟩:=Bn ((iU::z.2).map kS) s1;refine⟨z,en,v',hask',⟨⟨⟨_,p,_,rfl,rfl,rfl,rfl,?_⟩,⟨VR s1 ((iU::z.2).map kS),dv.aK+1,t1,[]⟩,?_,?_⟩,?_⟩,⟨?_,e1',e2,sf⟩,e3,?_,?_,?_,?_,?_,λk=>?_⟩
  ·exact⟨rfl,rfl,rfl,rfl,rfl,λ_=>rfl,by show 0<dv.cG.cM;omega,λx hx=>by
    have UT:x=0\/False:=hx;rcases UT with rfl|UT
    ·omega
    ·exact UT.elim⟩
  ·show v'=v'.kC 0 _
   rw[np];rw[Dq,e1'];rfl
  ·refine⟨g1.trans i1,rfl,rfl,by rw[g3,is,lD];omega,by rw[it];rfl,i6,i7,λx hx=>?_⟩
   have hids:∀(bs:List (List cH)) (s:OQ),(VR s bs).uW x->s.uW x\/(s.next<=x/\x<s.next+bs.length):=by
    intro bs
    induction bs with
    |nil=>intro s h;exact .inl h
    |cons b r ih=>
     intro s h;rw[mV];rcases ih _ h with h|h
     ·have h':x=s.next\/s.uW x:=h
      rcases h' with h'|h'
      ·exact .inr aB
      ·exact .inl h'
     ·have h':s.next+1<=x/\x<s.next+1+(r.length:Int):=h
      exact .inr aB
   rcases hids _ _ hx with h|h
   ·have:=i8 x h;omega
   ·rw[is,lD] at h;omega
  ·show []++(PW++YL).map Lg=_
   rw[List.nil_append,yA,hdn1,hdn2];rfl
  ·rw[Dq];show Fu en W.v.t.aT=_;rw[rX];rfl
  ·rw[Dq];rfl
  ·rw[Dq];rfl
  ·rw[Dq];rfl
  ·have hq:v'.t.gr 0=some en.aK:=by
    rw[Dq];exact if_pos (show(0:Int)=(en.aM:Int) by rw[e1'];rfl)
   show(v'.t.gr 0).getD (0:Int)=_;rw[hq];exact e2
  ·rw[Dq];rfl
  ·rw[Dq]
   show((lf k).getD (false:Bool))=false
   by_cases hk:k=en.a
   ·rw[hk];exact hlf2
   ·rw[hlf1 k hk];exact fm k
 ·obtain⟨f,hf,_⟩:=hE
  rw[rX] at hf;cases hf
end
end
section
def Ph(V:gW)(aK:Int)(d:Nat)(ms:List iJ)(r:Nat)(W:jF):Prop:=
 (r=2*ms.length+1/\PhA V aK d ms W)\/(∃i,i<ms.length/\r=2*ms.length-i/\PhB V aK d ms i W)\/∃j,r=ms.length-j/\PhC V aK d ms j W
section
variable{G:Gr}{W W':jF}{hs:List vB}{d:Nat}{V:gW}{aK:Int}{en:cV}{ms:List iJ}
theorem Ph.len{r:Nat}(h:Ph V aK d ms r W):W.gR.length<=ms.length+1/\(r<2*ms.length+1->W.gR.length<=ms.length)/\(0<r↔0<W.gR.length):=by
 rcases h with⟨rfl,h⟩|⟨i,hi,rfl,h⟩|⟨j,rfl,h⟩
 ·rw[h.gR,mV,lD,ZQ,lD];omega
 ·rw[h.gR,mH,lD,ZQ,lD,List.length_drop,Ik];omega
 ·rw[h.gR,Ik];omega
theorem Ph.step{r:Nat}(vi:VI V aK en)(h:Ph V aK d ms r W)(hm:∀m∈ms,Sm m)(hl:1<=ms.length/\ms.length<=10)(hr:0<r)(ho:JK G W yE W' hs):Ph V aK d ms (r-1) W':=by
 rcases h with⟨rfl,h⟩|⟨i,hi,rfl,h⟩|⟨j,rfl,h⟩
 ·exact .inr (.inl ⟨0,aB,aB,(h.step vi ho).1⟩)
 ·have h':=(h.step vi hm hl.2 hi ho).1
  by_cases dF:i+1<ms.length
  ·exact .inr (.inl ⟨i+1,dF,aB,h'⟩)
  ·have e:i+1=ms.length:=aB
   rw[e] at h';exact .inr (.inr ⟨0,aB,h'.end⟩)
 ·exact .inr (.inr ⟨j+1,aB,(h.step vi hl.2 aB ho).1⟩)
structure Qt(V:gW)(aK:Int)(en:cV)(d:Nat)(W:jF):Prop where
 ds:∃dv p c,W.ds=[(d,dv)]/\dv.lE=true/\dv.aK=aK/\dv.ch=some (p,c)/\Quiet c
 aT:W.v.t.aT=[en]
 q:Tb W.v
 gR:W.gR=[]
 u:jD 0 W.v.u=[]
 gr:W.v.t.gr=V.t.gr
 cG:W.v.cG=V.cG
theorem Ph.quiet(vi:VI V aK en)(h:Ph V aK d ms 0 W)(hl:1<=ms.length)(hu:jD 0 V.u=[])(fm:∀k,(V.lf k).getD (false:Bool)=false):Qt V aK en d W/\W.v.dL=V.dL:=by
 rcases h with⟨h0,h⟩|⟨i,hi,h0,h⟩|⟨j,h0,h⟩
 ·omega
 ·omega
 ·have hj:j=ms.length:=by have:=h.le;omega
  subst hj;obtain⟨⟨⟨dv,p,c,h1,h2,h3,h4,h5⟩,cs,h6,h7⟩,VJ⟩:=(⟨h.cv,h.gR⟩:Cv V aK ms.length ms.length 1 ms.length d W/\_);refine⟨⟨⟨dv,p,c,h1,h2,h3,h4,h5.quiet (lM _)⟩,by rw[h6];exact vi.aT,⟨λe he=>?_,λk=>by rw[h6];exact fm k⟩,by rw[VJ,Nat.sub_self];rfl,by rw[h6];exact hu,by rw[h6];rfl,by rw[h6];rfl⟩,by rw[h6];rfl⟩;rw[h6] at he ⊢;have uM:e∈V.t.aT:=he;rw[vi.aT] at uM;rw[kZ.1 uM,vi.aM,Hn];exact h7.quiet (lM _)
theorem said_wf{c:List Bool}{p:FZ}{z:FZ×List iJ}(ok:xJ G)(h:VP G c p z):(∀m∈iU::z.2,Sm m)/\2<=(iU::z.2).length/\(iU::z.2).length<=3:=by
 have h0:Sm iU:=⟨Dz (.inl rfl),iF _⟩;rcases ask_wf ok h with⟨e,s⟩|⟨l,w,m2,e,s1,s2⟩<;>rw[e]
 ·refine⟨λm hm=>?_,by simp,by simp⟩
  rcases jL.1 hm with rfl|hm
  ·exact h0
  ·rw[kZ.1 hm];exact s
 ·refine⟨λm hm=>?_,by simp,by simp⟩
  rcases jL.1 hm with rfl|hm
  ·exact h0
  ·rcases jL.1 hm with rfl|hm
   ·exact s1
   ·rw[kZ.1 hm];exact s2
theorem one_of{α:Type}{l:List α}{x:α}(h1:l.length=1)(h2:l[0]? =some x):l=[x]:=by
 match l,h1,h2 with
 | [y],_,h=>cases h;rfl
theorem Qt.tick(vi:VI V aK en)(h:Qt V aK en d W)(ht:ux W W'):W'.v.dL=W.v.dL+1/\W'.v.cG=V.cG/\W'.v.t.gr=V.t.gr/\jD 0 W'.v.u=[]/\(∀k,(W'.v.lf k).getD (false:Bool)=false)/\
  (∃dv p c,W'.ds=[(d,dv)]/\dv.lE=true/\dv.aK=aK/\dv.ch=some (p,c)/\Quiet c)/\if Cw W.v en=true then W'.v.t.aT=[]/\W'.gR=[dnG (iv aK 3)] else Qt V aK en d W':=by
 obtain⟨⟨dv,p,c,LQ,hl,YO,Lb,hq⟩,rX,hqv,VJ,hu,hgr,hcfg⟩:=h;obtain⟨ps,ups,tv,hb,fW,oF,hups⟩:=ht;have pass:∀pQ ds,FL dv pQ ds->ds=[]/\∃c',pQ={dv with ch:=some (p,c')}/\Quiet c':=by
  intro pQ ds hd;unfold FL at hd;rw[if_pos hl] at hd;obtain⟨p1,c1,gs,e,c',h1,h2,h3⟩:=hd;rw[Lb] at h1;cases h1;obtain⟨rfl,rfl,hc⟩:=TS hq h2;rw[if_pos rfl] at h3;obtain⟨h4,h5⟩:=h3;cases h5;exact⟨rfl,c',h4,hc.q⟩
 have one:∀(i:Nat) d1 dv1,W.ds[i]? =some (d1,dv1)->dv1=dv:=by
  intro i d1 dv1 hi;rw[LQ] at hi
  match i,hi with
  |0,hi=>cases hi;rfl
 have hups':=hups λi d1 dv1 pQ ds hi hd=>by
  have e:=one i d1 dv1 hi;subst e;exact(pass pQ ds hd).1
 obtain⟨pQ,Vx,hg,hd⟩:=oF 0 d dv (by rw[LQ];rfl);obtain⟨_,c',hdv,hqc⟩:=pass pQ Vx hd;have hds':W'.ds=[(d,pQ)]:=one_of (by rw[fW,LQ];rfl) hg;obtain⟨q1,q2,q3,q4,_,q6⟩:=tv.q hqv (.inl (by rw[hu];rfl));have fj:W'.v.u=W.v.u:=by rw[tv.u,hu];rfl
 have drv:∃dv p c,W'.ds=[(d,dv)]/\dv.lE=true/\dv.aK=aK/\dv.ch=some (p,c)/\Quiet c:=⟨pQ,p,c',hds',by rw[hdv];exact hl,by rw[hdv];exact YO,by rw[hdv],hqc⟩;rw[rX] at q1 q3;rw[VJ,hups',sG,List.nil_append] at hb;refine⟨tv.dL,tv.cG.trans hcfg,q2.trans hgr,by rw[fj];exact hu,q6,drv,?_⟩;cases he:Cw W.v en with
 |true=>
  rw[if_pos rfl];rw[FB,he] at q1 q3;cases q3 with
  | @cons _ b _ _ h1 h2=>
   cases h2;refine⟨q1,?_⟩;rw[hb];have h1':Wn (0:Int) (iv aK 3) b:=by rw[vi.aM,vi.cn] at h1;exact h1
   exact kr (gs:=[iv aK 3]) (F2.one h1') λg hg=>by rw[kZ.1 hg];exact wf_rst (Md vi.sf) aB
 |false=>
  rw[if_neg dJ];rw[FB,he] at q1 q3;cases q3;refine⟨drv,q1,⟨λe hm=>?_,q6⟩,hb,by rw[fj];exact hu,q2.trans hgr,tv.cG.trans hcfg⟩;rw[q1] at hm;rw[kZ.1 hm];exact(q4 en (by rw[rX];exact kZ.2 rfl)).q
theorem aAH{dv:yY}{code:Int}(hc:1<=aK/\aK<=1000001)(hcd:0<=code/\code<256)(LQ:W.ds=[(d,dv)])(hl:dv.lE=true)(YO:dv.aK=aK)(hb:W.gR=[dnG (iv aK code)])(ho:JK G W yE W' hs):W'.ds=[(d,{dv with lE:=false,why:=code})]/\W'.gR=[]/\W'.v=W.v:=by
 obtain⟨pQ,ds,ms,hr,rfl,rfl⟩:=mj (WH ho hb) rfl rfl LQ;obtain⟨g,e,hg,MO⟩:=hr;obtain⟨rfl,rfl⟩:=hg.ok _ (wf_rst (Md hc) hcd) rfl;have Fz:Gz dv (iv aK code) 0:=⟨rfl,hl,YO.symm⟩;rcases MO with⟨hn,_⟩|⟨_,h3,h4,h5,h6⟩|⟨_,h3,_⟩
 ·exact absurd Fz hn
 ·subst h4;subst h5;exact⟨rfl,rfl,rfl⟩
 ·exact absurd rfl h3
end
end
section
abbrev ev0(ev:IV):IV×Sl:=(ev,bD)
theorem lits_row{g:Nat}{PY:List IV}{w:aH}{P:BS}(o:cW w g Si (PY.flatMap λev=>rz (ev0 ev)))(hraw:∀ev∈PY,ev.Wc=[])(hl:PY.length<=1000)(hg:P g):RowE P w ⟨some ⟨g,0,none⟩,PY.length,PY.length⟩ PY:=by
 have hv:=(dP.new uc (PY.map ev0) (by rw[List.flatMap_map];exact o) (by rw[lD];simp only[maxLen];omega)).rd uc;rw[lD] at hv;refine⟨PY.map ev0,by rw[List.map_map];exact List.map_id _,hv,λb hb=>by cases hb;exact⟨hg,o.lt⟩,λx hx=>?_⟩;obtain⟨ev,he,rfl⟩:=lN.1 hx;refine⟨?_,λb hb=>by cases hb⟩;show Rd w bD 1 eU ev.Wc;rw[hraw ev he];exact Rd.nil _ _ _
structure Wx(N:BS)(E:qQ)(G:Gr)(a wa n:Nat)(W0 w0:aH)(B:Int)(W:jF)(w:aH)(S:BS):Prop where
 x:iI N E.e a wa W w S
 b:Bs W0 E G S w
 ok:UZ G B n W
 k:aN w0 w
 lo:∀k,S k->w0.heap.size<=k
section
variable{N:BS}{E:qQ}{G:Gr}{a wa n:Nat}{W0 w0 w w':aH}{B:Int}{W:jF}{S:BS}
theorem Wx.kp(h:Wx N E G a wa n W0 w0 B W w S)(k:aN w w'):Wx N E G a wa n W0 w0 B W w' S:=⟨h.x.kp k,h.b.kp k,h.ok,h.k.tr k,h.lo⟩
theorem Sp{K:jF->IV->Prop}(jA:Yc K){PY:List IV}{Q:Sl->aH->Prop}(hK:∀W1 ev,ev∈PY->(PY.length=1->W1=W)->K W1 ev)(h:Wx N E G a wa n W0 w0 B W w S)(hN:∀k,N k->k<w.heap.size)(hraw:∀ev∈PY,ev.Wc=[])(hl:PY.length<=10)(hB:B<=100000)(DM:W.gR.length<=200000)(LK:W.v.dL<=100000)
  (hQ:∀rh hs W' w1 w' S',aN w w1->Wx N E G a wa n W0 w0 (B+16*PY.length) W' w' S'->Up S S' w1 w'->Mh w1.heap.size S' w' rh hs->ij G W PY W' hs->W'.v.cG=W.v.cG->W'.gR.length<=W.gR.length+PY.length*zI W.v.cG n->hs.length<=PY.length*20/\W'.v.dL<=W.v.dL+PY.length->Q rh w'):
  aG w (PY.flatMap λev=>rz (ev0 ev)).toArray Si λa4 eQ=>zQ (some ⟨wa,0,none⟩) ⟨(some a4),PY.length,PY.length⟩ eQ Q:=by
 have lt:=h.x.lt;refine cD λw1 b1 k1 z1=>?_;have h1:=h.kp k1;refine do_i jA hK h1.x (λk hk=>nM (hN k hk) k1.size) h1.b h1.ok aB aB aB aB (lits_row b1.1 hraw aB ⟨λhs=>by have:=lt _ hs;omega,b1.1.lt⟩) (λev he=>by rw[hraw ev he];simp) λrh hs W' w' S' g hdo=>?_;have z1':=h1.k.size;exact hQ rh hs W' w1 w' S' k1 ⟨g.x,h1.b.up g.up,g.ok,h1.k.fresh g.up.m h1.lo,λk hk=>(g.up.s k hk).elim (h1.lo k) λh=>aB⟩ g.up g.CU hdo g.cG g.len ⟨g.hl,g.dL⟩
theorem Hf{d:Nat}{dv:yY}{Q:cO->aH->Prop}(h:iI N E.e a wa W w S)(LQ:W.ds=[(d,dv)])(hQ:∀S1,wP d dv w S1->Q (some ⟨d,0,none⟩) w):kJ (some ⟨wa,0,none⟩) 0 w Q:=by
 refine ZV h (by rw[LQ];simp) (λd' pQ _ hi=>?_) (λuX=>absurd ⟨lM _,by rw[LQ];simp⟩ uX);rw[LQ] at hi;cases hi;obtain⟨S1,rr,_⟩:=h.drv (i:=0) (d:=d) (dv:=dv) (by rw[LQ];rfl);exact hQ S1 rr
end
end
section
def KS(T:Prop)(C:jF->Prop)(W:jF)(ev:IV):Prop:=ev.kind=1\/(T/\C W/\ev.kind=4)\/ev.kind=5\/ev.kind=7\/ev.kind=11
def ml(C:jF->Prop):Prop:=∀(N:BS) (W0 w:aH) (S:BS) (a wa n:Nat) (W:jF) (E:qQ) (G:Gr) (B:Int) (Q:aH->Prop),C W->iI N E.e a wa W w S->(∀k,N k->k<w.heap.size)->Bs W0 E G S w->UZ G B n W->B<=1000000000->W.gR.length<=800000->W.v.dL<1000000000->
 (∀W' w' S',wK N G B n E.e a wa W w S bD [] (W.v.cG.oI*(2*W.v.cG.cM+1)+n*(W.v.cG.cM+1)) W' w' S'->ux W W'->Q w')->HV (some ⟨wa,0,none⟩) w Q
theorem tick_ok:ml λ_=>True:=λ_ _ _ _ _ _ _ _ _ _ _ _ _ h hN hb ok hB DM LK hQ=>tick_i h hN hb ok hB DM LK hQ
section
variable{N:BS}{W0 w:aH}{S:BS}{a wa n:Nat}{W:jF}{E:qQ}{G:Gr}{B:Int}
theorem aAX{ev:IV}{sl:Sl}{Q:Sl->aH->Prop}(h:iI N E.e a wa W w S)(hN:∀k,N k->k<w.heap.size)(hb:Bs W0 E G S w)(ok:UZ G B n W)(hB:B<=1000000000)(DM:W.gR.length<=800000)(hr:Rd w sl 1 eU ev.Wc)(ho:BD sl S w)(hl:ev.Wc.length<=5000)(hk711:ev.kind=7\/ev.kind=11)
  (hQ:∀rh hs W' w' S',wK N G B n E.e a wa W w S rh hs (W.v.cG.cM+1) W' w' S'->DrvsR G W ev W' hs->Q rh w'):EI (some ⟨wa,0,none⟩) (Rg (ev,sl)) w Q:=by
 unfold EI;have lt0:=h.lt;have hn:=ok.len;refine cD (cs:=rz (ev,sl)) λw1 b1 k1 z1=>aE (k:=.i) ev.d (aP b1 rfl) ?_;have h1:=h.kp k1;refine ZV h1 aB (λd dv h0 hi=>?_) (λuX=>?_)
 ·refine aF (λh=>by simp at h) (λ_=>?_)
  obtain⟨S1,rr,vY,c0,_⟩:=h1.Ch;refine aA rfl (aE (k:=.ptr) (some ⟨a,0,none⟩) c0 (Sw rr ?_));obtain⟨S2,hD,IT,dN⟩:=h1.drv hi;have yu:=ok.ds _ (zN hi);obtain⟨i,hie⟩:∃i:Nat,ev.d=(i:Int):=⟨ev.d.toNat,aB⟩;have hti:ev.d.toNat=i:=aB;rw[hti] at hi dN;intro J1 OP;have j1:∀r ds pQ w6 S6,Mk B d dv w1 S2 r ds pQ w6 S6->(ev.kind=11->False)->(ev.kind=7->ZG dv ev.m ev.n pQ ds)->J1 (r,()) w6:=λr ds pQ w6 S6 g Ld h7=>by
   apply OP;have ob:cW w6 w.heap.size Si (rz (ev,sl)):=b1.1.aL g.up.m λhs=>by have:=lt0 _ (IT _ hs);omega
   refine aE (k:=.i) ev.d (dO ob rfl) ?_;rw[hie];refine drv_sent h1 hi ok DM (λk hk=>nM (hN k hk) k1.size) dN g λw7 S7 h7' u7 gg l7=>?_;refine hQ _ [] _ w7 S7 ⟨h7',(Up.aO k1).tr u7,eX.nil,gg,rfl,by show(W.gR++_).length<=_;simp;omega,by show W.v.dL<=_;omega,iF _⟩ λ_=>⟨λhk=>⟨d,dv,pQ,ds,by rw[hti];exact hi,h7 hk,by rw[hti,hie],rfl⟩,λhk=>(Ld hk).elim⟩
  refine aE (k:=.i) ev.kind (aP b1 rfl) (aF (λhk=>?_) (λhk7=>aF (λhk=>?_) (λhk8=>aF (λhk=>?_) (λhk9=>aF (λhk=>?_) (λhk10=>aF (λhk=>?_) (λhk11=>?_))))))
  ·have lT:ev.kind=7:=by simpa using hk
   refine aE (k:=.i) ev.m (aP b1 rfl) (aE (k:=.i) ev.n (aP b1 rfl) (DStart_i hD yu.1 ⟨ok.b0,aB⟩ λr ds e v' w6 S6 g BB=>j1 r ds v' w6 S6 g (λh=>aB) λ_=>BB))
  ·have lT:ev.kind=8:=by simpa using hk
   omega
  ·have lT:ev.kind=9:=by simpa using hk
   omega
  ·have lT:ev.kind=10:=by simpa using hk
   omega
  ·have lT:ev.kind=11:=by simpa using hk
   refine aE (k:=.i) ev.d (aP b1 rfl) (aE (k:=.slice) sl (aP b1 rfl) ?_);have cL:=(kY.1 hi).1;refine xf h1 (λk hk=>nM (hN k hk) k1.size) (hb.kp k1) ok aB ⟨h0,aB⟩ DM (hr.aL k1 fN λ_ _=>id) (ho.kp k1) hl λrh hs v' ps w' S' g zC=>?_;exact hQ rh hs _ w' S' ⟨g.x,(Up.aO k1).tr g.up,g.CU.qN k1.size,g.ok,g.cG,g.len,g.dL,g.hl⟩ λ_=>⟨λh=>aB,λ_=>⟨v',ps,zC,rfl⟩⟩
  ·have n7:¬ev.kind=7:=by simpa using hk7
   have n11:¬ev.kind=11:=by simpa using hk11
   omega
 ·exact aF (λ_=>hQ _ [] W w1 S (wK.same h ok k1 _) λhh=>absurd hh uX) (λh=>by simp at h)
theorem oneS_1{T:Prop}{C:jF->Prop}(tk:T->ml C){ev:IV}{sl:Sl}{Q:Sl->aH->Prop}(ia:KS T C W ev)(h:iI N E.e a wa W w S)(hN:∀k,N k->k<w.heap.size)(hb:Bs W0 E G S w)(ok:UZ G B n W)(hB:B<=1000000000)(DM:W.gR.length<=800000)(LK:W.v.dL<1000000000)(hr:Rd w sl 1 eU ev.Wc)(ho:BD sl S w)(hl:ev.Wc.length<=5000)
  (hQ:∀rh hs W' w' S',wK N G B n E.e a wa W w S rh hs (zI W.v.cG n) W' w' S'->JK G W ev W' hs->Q rh w'):NK (some ⟨wa,0,none⟩) (Rg (ev,sl)) w Q:=by
 unfold NK;have hn:=ok.len;have hmu:=Yr ok.v.cG hn.2.1;refine cD (cs:=rz (ev,sl)) λw1 b1 k1 z1=>aE (k:=.i) ev.kind (aP b1 rfl) ?_;have h1:=h.kp k1;have Du:=hb.kp k1;have hN1:∀k,N k->k<w1.heap.size:=λk hk=>nM (hN k hk) k1.size;have tev:bW w1 ⟨w.heap.size,0,none⟩ 0 (qP kEv (Rg (ev,sl))):=b1.1.holds λj v hj=>by rw[pU];exact hj
 have dW:∀rh hs W' w' S',wK N G B n E.e a wa W w1 S rh hs (zI W.v.cG n) W' w' S'->JK G W ev W' hs->Q rh w':=λrh hs W' w' S' g zC=>hQ rh hs W' w' S' ⟨g.x,(Up.aO k1).tr g.up,g.CU.qN k1.size,g.ok,g.cG,g.len,g.dL,g.hl⟩ zC;intro J1 OP;have j1:∀b:Bool,(b=true↔(ev.kind=1\/ev.kind=2\/ev.kind=3))->J1 (b,()) w1:=λb ze=>by
  apply OP;refine aF (λhbt=>?_) (λhbf=>?_)
  ·have hk:=ze.1 hbt
   refine bJ (l:=kEv) (Rg (ev,sl)) tev (aA7 h1 hN1 Du ok aB DM λrh hs W' w' S' g zC=>?_);exact dW rh hs W' w' S' (g.RZ hmu.1) ⟨λ_=>zC,λh=>aB,λh=>aB,λh=>aB⟩
  ·have hk:¬(ev.kind=1\/ev.kind=2\/ev.kind=3):=λh=>by have hbf':b=false:=hbf;rw[ze.2 h] at hbf';cases hbf'
   refine aF (λhk4=>?_) (λhk4=>aF (λNp=>?_) (λNp=>aF (λhk6=>?_) (λhk6=>?_)))
   ·have hk4':ev.kind=4:=by simpa using hk4
    obtain⟨hT,hC⟩:T/\C W:=by
     rcases ia with h|⟨h,h',_⟩|h|h|h
     ·omega
     ·exact⟨h,h'⟩
     ·omega
     ·omega
     ·omega
    refine tk hT _ _ _ _ _ _ _ _ _ _ _ _ hC h1 hN1 Du ok hB DM LK λW' w' S' g zC=>?_;exact dW _ [] W' w' S' (g.RZ hmu.2.2) ⟨λh=>absurd h hk,λ_=>⟨zC,rfl⟩,λh=>aB,λh=>aB⟩
   ·have hk5':ev.kind=5:=by simpa using Np
    have h1d:=h1.kp (bO w1);have b1d:=bF.dr b1;obtain⟨S1,rr,vY,c0,dN⟩:=h1d.Ch;refine aA rfl (aE (k:=.ptr) (some ⟨a,0,none⟩) c0 (aE (k:=.i) ev.n (aP b1d rfl) (aE (k:=.i) ev.m (aP b1d rfl) ?_)));refine VClose_i rr ((Du.kp (bO w1)).sub vY) ok.v λr ps er v' w5 S5 g=>?_;refine srv_sent h1d ok DM hN1 dN g ⟨rfl,rfl,rfl⟩ λw7 S7 g7 zC=>?_;exact dW _ [] _ w7 S7 ⟨g7.x,(Up.aO (bO w1)).tr g7.up,eX.nil,g7.ok,g7.cG,g7.len,g7.dL,g7.hl⟩ ⟨λh=>absurd h hk,λh=>aB,λ_=>zC,λh=>aB⟩
   ·have hk6':ev.kind=6:=by simpa using hk6
    have h4:¬ev.kind=4:=by simpa using hk4
    rcases ia with h|⟨_,_,h⟩|h|h|h<;>omega
   ·have n4:¬ev.kind=4:=by simpa using hk4
    have n5:¬ev.kind=5:=by simpa using Np
    intro J2 Ra;have j2:∀b2:Bool,(b2=false->¬ev.kind=7/\¬ev.kind=11)->J2 (b2,()) w1:=λb2 RX=>by
     apply Ra;refine aF (λhbt=>?_) (λhbf=>?_)
     ·refine bJ (l:=kEv) (Rg (ev,sl)) tev (aAX h1 hN1 Du ok hB DM (hr.aL k1 fN λ_ _=>id) (ho.kp k1) hl (by rcases ia with h|⟨_,_,h⟩|h|h|h<;>omega) λrh hs W' w' S' g zC=>?_)
      exact dW rh hs W' w' S' (g.RZ hmu.1) ⟨λh=>absurd h hk,λh=>absurd h n4,λh=>absurd h n5,λ_=>zC⟩
     ·have:=RX hbf
      exact dW _ [] W w1 S (wK.same h1 ok (aY.refl _ _) _) ⟨λh=>absurd h hk,λh=>absurd h n4,λh=>absurd h n5,λh=>aB⟩
    have tr:∀k:Int,(ev.kind==k)=true->J2 ((ev.kind==k),()) w1:=λk hk=>j2 _ λh=>by rw[hk] at h;cases h
    refine aF (λh=>tr 7 h) (λh7=>aF (λh=>tr 8 h) (λ_=>aF (λh=>tr 9 h) (λ_=>aF (λh=>tr 10 h) (λ_=>j2 _ λh=>⟨by simpa using h7,by simpa using h⟩))))
 refine aF (λhk=>j1 _ ?_) (λQM=>aF (λhk=>j1 _ ?_) (λDL=>j1 _ ?_))
 ·simp at hk ⊢;omega
 ·simp at hk ⊢;omega
 ·simp at QM DL ⊢;omega
end
theorem oneS_i{T:Prop}{C:jF->Prop}(tk:T->ml C):Yc (KS T C):=λ_ _ _ _ _ _ _ _ _ _ _ _ _ _ ia h hN hb ok hB DM LK hr ho hl hQ=>oneS_1 tk ia h hN hb ok hB DM LK hr ho hl hQ
theorem EA:Yc (KS True λ_=>True):=oneS_i λ_=>tick_ok
end
theorem Made.one{E:qQ}{G:Gr}{a wa:Nat}{c:wQ}{w0 W0 w':aH}{S':BS}{W:jF}(h:Made E G a wa 1 c w0 W0 w' S' W):∃d,W.ds=[(d,QE c)]/\W.v.t.aT=[]/\W.v.t.grI 0=0/\jD 0 W.v.u=[]/\(∀k,(W.v.lf k).getD (false:Bool)=false)/\W.v.dL=0/\W.v.cG=c/\W.v.u=List.replicate G.m 0:=by
 obtain⟨sp,tp,lp,FY,ds,rfl,LQ⟩:=h.w;obtain⟨p,rfl⟩:∃p,ds=[p]:=by
  have:=congrArg List.length LQ;simp at this;exact List.length_eq_one_iff.1 this
 obtain⟨d,dv⟩:=p;have e:dv=QE c:=by
  have:=congrArg List.head? LQ;simp[List.replicate] at this;exact this
 subst e;refine⟨d,rfl,rfl,rfl,?_,λ_=>rfl,rfl,rfl,rfl⟩;have:∀(n i:Nat),jD i (List.replicate n 0)=[]:=by
  intro n
  induction n with
  |zero=>intro i;rfl
  |succ n ih=>intro i;rw[List.replicate_succ,jD,ih];rfl
 exact this G.m 0
theorem raw2(x y:Int):∀ev∈[Em x y,yE],ev.Wc=[]:=by
 intro ev he;rcases jL.1 he with rfl|he
 ·rfl
 ·rw[kZ.1 he]
theorem ks2{T:Prop}{C:jF->Prop}{W:jF}{x y:Int}{e:IV}(he:e∈[Em x y,yE]):KS T C W e:=by
 rcases jL.1 he with rfl|he
 ·exact .inr (.inr (.inr (.inl rfl)))
 ·rw[kZ.1 he];exact .inl rfl
theorem ks11{T:Prop}{C:jF->Prop}{W:jF}{e:IV}(h:e.kind=11):KS T C W e:=.inr (.inr (.inr (.inr h)))
set_option maxHeartbeats 2000000 in
theorem Un{l:Sl}{xs:List Int}{at_ node idle:Int}{W:aH}{Q:Bool->aH->Prop}(hl:Rd W l 1 eI xs)(hQ:∀w',aN W w'->Q true w'):rS l at_ node idle W Q:=by
 unfold rS;refine aJ (λ_=>Ep EA (λ_ _=>ks11) hQ) (λ_=>aJ (λ_=>Ep EA (λ_ _=>ks11) hQ) (λhi1=>aJ (λ_=>Ep EA (λ_ _=>ks11) hQ) (λhi2=>?_)));refine Town_i hl λg G w4 hg ok hn16 k4=>?_;refine bP λw5 o5 k5 z5=>?_;refine fD (vs:=Au g) o5 yR rfl (Xx g) λw6 o6 m6 _=>?_;have K6:aN w4 w6:=k5.fresh m6 λk (e:k=w4.heap.size)=>aB;refine bJ (l:=[.slice,.slice,.slice]) g (KY (g:=g) o6) ?_;obtain⟨m,hm⟩:∃m:Nat,idle=(m:Int):=⟨idle.toNat,aB⟩;subst hm;have KT:(⟨1,16,20,1000,1000,(m:Int)⟩:wQ).Ok:=⟨⟨iX _,by show 1<=16;omega⟩,⟨by show 1<=16;omega,iX _⟩,by show(0:Int)<=20/\(20:Int)<=20;omega,by show(1:Int)<=1000/\(1000:Int)<=1000;omega,by show(1000:Int)<=1000/\(1000:Int)<=1000;omega,by show(1:Int)<=m/\(m:Int)<=1000;omega⟩;obtain⟨c,hc⟩:∃c:wQ,c=⟨1,16,20,1000,1000,(m:Int)⟩:=⟨_,rfl⟩;rw[<-hc] at KT;have hcw:c.cM=16:=by rw[hc]
 have Qy:c.oI=1:=by rw[hc]
 have hci:c.idle=m:=by rw[hc]
 have htup:((1:Int),(16:Int),(20:Int),(1000:Int),(1000:Int),(m:Int),())=wO c:=by rw[hc];rfl
 rw[htup];refine NewW_i (g:=g) (c:=c) (n:=1) (hg.aO K6) ok KT ⟨aB,aB⟩ λE a wa W0 w7 S7 Wd hM kW0=>aF (λh=>by cases h) (λ_=>aF (λh=>by cases h) (λ_=>?_));obtain⟨d,LQ,rX,hgr,hu0,fm,hnow0,hcfg0,_⟩:=hM.one;refine HU hM.x (aF (λh=>by cases h) (λ_=>Hf hM.x LQ λS1 hD=>aF (λh=>by cases h) (λ_=>?_)));have ra:=ok.m1;have hn1:=ok.n1;have gl:g.2.1.l=G.m:=hg.ed.len;have gn:g.1.l=G.n:=hg.nd.len;have K46:=k4.tr K6;have KM:=hM.k;have d7:=bO w7;have o0:=(o6.aL KM id).aL d7 id;refine aE (k:=.slice) g.2.1 (BG o0).2.1 (aE (k:=.slice) g.1 (BG o0).1 ?_);rw[gl,gn];refine Ub aB aB ⟨by rw[<-gn];exact(BG o0).1,Ub aB aB ?_⟩;have ha:G.pP (at_%(G.m:Int)):=⟨Int.emod_nonneg _ aB,Int.emod_lt_of_pos _ aB⟩;have hv:G.UL (node%(G.n:Int)):=⟨Int.emod_nonneg _ aB,Int.emod_lt_of_pos _ aB⟩;generalize at_%(G.m:Int)=x2 at*;generalize node%(G.n:Int)=x3 at*;have hx0:Wx (λ_=>False) E G a wa 1 W0 W 0 Wd w7.drew S7:=⟨hM.x.kp d7,hM.b.kp d7,hM.ok,(K46.tr KM).tr d7,λk hk=>iG K46.size (hM.lo k hk)⟩;have SN:=hM.gR;refine bK (λcc t w=>∃(T:Nat) (B:Int) (Wi:jF) (S:BS) (dv:yY),T<=2/\cc=2-T/\t=(((T+1:Nat):Int),())/\Wx (λ_=>False) E G a wa 1 W0 W B Wi w S/\(0<=B/\B<=2000*T)/\Wi.gR=[]/\Wi.ds=[(d,dv)]/\dv.aK=T/\Wi.v.t.aT=[]/\Wi.v.t.grI 0<=T/\jD 0 Wi.v.u=[]/\(∀k,(Wi.v.lf k).getD (false:Bool)=false)/\(0<=Wi.v.dL/\Wi.v.dL<=50*T)/\Wi.v.cG=c) 2
  ⟨0,0,Wd,S7,QE c,aB,rfl,rfl,hx0,aB,SN,LQ,rfl,rX,by rw[hgr];simp,hu0,fm,by rw[hnow0];omega,hcfg0⟩ ?_
 rintro cc t w ⟨T,B,Wi,S,dv,hT,rfl,rfl,hx,hB,VJ,hdsi,hconn,hent,hgri,hui,hlfi,hnowi,hcfgi⟩ X1 hX1;dsimp only;refine aJ (λcL=>?_) (λ_=>Ep EA (λ_ _=>ks11) λw' k'=>hQ w' (hx.k.tr k'));have hT2:T<2:=aB;have hdok:=hx.ok.ds _ (by rw[hdsi];exact kZ.2 rfl);have hvok:=hx.ok.v;refine Sp EA (PY:=[Em x2 x3,yE]) (λ_ e he _=>ks2 he) hx (λ_ h=>h.elim) (raw2 _ _) dJ aB (by rw[VJ];simp) aB λrh hs W1 w1 mQ S14 k1 An u1 yy hdo hcfg1 hbl1 _=>?_;obtain⟨z,en,V,hask,hA,vi,QX,hVnow,hVu,hVcfg,hVgr,hVmost,hVlf⟩:=aA8 ok hdo VJ hdsi hent hvok.t.eE.1 aB (by rw[hdok.2]) (by rw[hcfgi,hcw];omega) aB ha hv hlfi;obtain⟨hsm,fo,hl3⟩:=said_wf ok hask;generalize Vr:iU::z.2=ms at*;rw[hconn] at hA vi hVgr;have hVc:V.cG=c:=hVcfg.trans hcfgi;refine bK (λcc t w=>∃(B:Int) (Wi:jF) (S:BS),Ph V ((T:Int)+1) d ms cc Wi/\Wx (λ_=>False) E G a wa 1 W0 W B Wi w S/\(0<=B/\B+16*cc<=2000*T+200)) (2*ms.length+1)
  ⟨B+16*2,W1,S14,.inl ⟨rfl,hA⟩,An,aB⟩ ?_
 rintro cc t fV ⟨B2,W2,S2,hph,Wh,hB2⟩ X2 hX2;obtain⟨pl1,pl2,pl3⟩:=hph.len;refine Hg Wh.x aB (λu hu=>(Wh.ok.gR u hu).1) λs4 gX v4 Nn=>?_;have hs4:s4.l=W2.gR.length:=v4.len;have hx16:=Wh.kp Nn;have hnow2:W2.v.dL=V.dL:=by
  rcases hph with⟨_,h⟩|⟨i,_,_,h⟩|⟨j,_,h⟩<;>(obtain⟨cs,e,_⟩:=h.cv.v;rw[e];rfl)
 refine aJ (λuN=>?_) (λhzero=>?_)
 ·have hcc:0<cc:=pl3.2 aB
  refine Hg hx16.x aB (λu hu=>(hx16.ok.gR u hu).1) λs5 lP v5 Kw=>?_;have hs5:s5.l=W2.gR.length:=v5.len;refine Sp EA (PY:=[yE]) (λ_ e he _=>by rw[kZ.1 he];exact .inl rfl) (hx16.kp Kw) (λ_ h=>h.elim) (λev he=>by rw[kZ.1 he]) dJ aB aB aB λrh3 Fc W3 nJ qD S19 Wf hx19 u19 hr19 hdo3 hcfg3 hbl3 _=>?_;have hph':=hph.step vi hsm ⟨aB,aB⟩ hcc hdo3.one;obtain⟨ql1,ql2,ql3⟩:=hph'.len;have hcl:cc<=2*ms.length+1:=by
   rcases hph with⟨h,_⟩|⟨i,_,h,_⟩|⟨j,h,_⟩<;>omega
  have ql:=ql2 aB;refine Hg hx19.x aB (λu hu=>(hx19.ok.gR u hu).1) λs7 xX v7 k20=>?_;have hs7:s7.l=W3.gR.length:=v7.len;refine aJ (λh=>?_) (λ_=>hX2 (cc-1) _ _ aB ⟨B2+16*1,W3,S19,hph',hx19.kp k20,aB⟩);rw[gV aB aB] at h;omega
 ·have hcc:cc=0:=by
   rcases Nat.eq_zero_or_pos cc with h|h
   ·exact h
   ·have:=pl3.1 h;omega
  subst hcc;obtain⟨hqt,_⟩:=hph.quiet vi aB (by rw[hVu];exact hui) hVlf;refine bK (λcc t w=>∃(i:Nat) (B:Int) (Wi:jF) (S:BS),(1<=i/\i<=m+1)/\cc=m+1-i/\t=((i:Int),())/\Wx (λ_=>False) E G a wa 1 W0 W B Wi w S/\(0<=B/\B<=2000*T+200+16*i)/\Wi.v.dL=V.dL+i-1/\Wi.v.cG=c/\Wi.v.t.gr=V.t.gr/\jD 0 Wi.v.u=[]/\(∀k,(Wi.v.lf k).getD (false:Bool)=false)/\
    (∃dv p c,Wi.ds=[(d,dv)]/\dv.lE=true/\dv.aK=(T:Int)+1/\dv.ch=some (p,c)/\Quiet c)/\if i<=m then Qt V ((T:Int)+1) en d Wi else Wi.v.t.aT=[]/\Wi.gR=[dnG (iv ((T:Int)+1) 3)]) m
   ⟨1,B2,W2,S2,aB,aB,rfl,hx16,aB,aB,hqt.cG.trans hVc,hqt.gr,hqt.u,hqt.q.2,hqt.ds,by rw[if_pos aB];exact hqt⟩ ?_
  rintro cc t AO ⟨i,B3,W3,S3,hi,rfl,rfl,fi,hB3,hnow3,hcfg3,hgr3,hu3,hlf3,⟨dv3,p3,c3,hds3,hl3',hcn3,hch3,hq3⟩,Ao⟩ X3 hX3;dsimp only;refine aJ (λFX=>?_) (λhgt=>?_)
  ·have him:i<=m:=aB
   rw[if_pos him] at Ao;obtain⟨SS,hSS,_⟩:=fi.x.Ch;refine HU fi.x (Tx hSS fi.ok.v λr Dj v23 qy f23=>?_);have hrl:r.l=1:=by rw[v23.len,lD,Ao.aT];rfl
   refine aF (λh=>by rw[hrl] at h;simp at h) (λ_=>?_);have hx23:=fi.kp qy;refine Hf hx23.x hds3 λS5 hD5=>Eu hD5 (aF (λh=>by rw[hl3'] at h;simp at h) (λ_=>?_));refine Sp EA (PY:=[evTick]) (λ_ e he _=>by rw[kZ.1 he];exact .inr (.inl ⟨trivial,trivial,rfl⟩)) hx23 (λ_ h=>h.elim) (λev he=>by rw[kZ.1 he]) dJ aB (by rw[Ao.gR];simp) aB λrh4 hs4' W4 Qr Vj S27 k26 hx27 u27 hr27 hdo4 hcfg4 hbl4 _=>?_;obtain⟨t1,t2,t3,t4,t5,t6,t7⟩:=Ao.tick vi (hdo4.one.2.1 rfl).1;rw[qM i aB];refine hX3 (m+1-(i+1)) _ _ aB ⟨i+1,B3+16*1,W4,S27,aB,rfl,rfl,hx27,aB,aB,t2.trans hVc,t3,t4,t5,t6,?_⟩;have hex:Cw W3.v en=decide (i+1>m):=by
    unfold Cw;rw[hcfg3,hci,hnow3,QX,<-hVnow]
    by_cases h:i+1>m
    ·rw[decide_eq_true h,decide_eq_true aB]
    ·rw[decide_eq_false h,decide_eq_false aB]
   rw[hex] at t7
   by_cases h:i+1<=m
   ·rw[if_pos h];rw[if_neg (by simp;omega)] at t7;exact t7
   ·rw[if_neg h];rw[if_pos (by simp;omega)] at t7;exact t7
  ·have him:i=m+1:=aB
   rw[if_neg aB] at Ao;obtain⟨he3,Nq⟩:=Ao;obtain⟨SS,hSS,_⟩:=fi.x.Ch;refine HU fi.x (Tx hSS fi.ok.v λr Wb v29 k29 f29=>?_);have hrl:r.l=0:=by rw[v29.len,lD,he3];rfl
   refine aF (λh=>by rw[hrl] at h;simp at h) (λ_=>?_);have hx29:=fi.kp k29;refine Hg hx29.x (by rw[Nq];simp) (λu hu=>(hx29.ok.gR u hu).1) λFV w30 v30 k30=>?_;have hs11:FV.l=1:=by rw[v30.len,Nq];rfl
   refine aF (λh=>by rw[hs11] at h;simp at h) (λ_=>?_);refine Sp EA (PY:=[yE]) (λ_ e he _=>by rw[kZ.1 he];exact .inl rfl) (hx29.kp k30) (λ_ h=>h.elim) (λev he=>by rw[kZ.1 he]) dJ aB (by rw[Nq];simp) aB λrh5 hs5 W5 w31 w32 S32 k31 hx32 u32 hr32 hdo5 hcfg5 hbl5 _=>?_;obtain⟨r1,r2,r3⟩:=aAH vi.sf aB hds3 hl3' hcn3 Nq hdo5.one;refine Hf hx32.x r1 λS6 hD6=>Eu hD6 (aF (λh=>by cases h) (λ_=>?_));refine Hf hx32.x r1 λS7' hD7=>DWhy_i hD7 (aF (λh=>by cases h) (λ_=>?_));refine Hf hx32.x r1 λS8 hD8=>ym hD8 (aF (λh=>?_) (λ_=>?_))
   ·have e:dv3.aK=((T+1:Nat):Int):=by rw[hcn3];omega
    simp[e] at h
   ·rw[qM (T+1) aB]
    refine hX1 (2-(T+1)) _ _ aB ⟨T+1,B3+16*1,W5,S32,{dv3 with lE:=false,why:=3},aB,rfl,rfl,hx32,aB,r2,r1,by show dv3.aK=_;rw[hcn3];omega,by rw[r3];exact he3,?_,by rw[r3];exact hu3,by rw[r3];exact hlf3,by rw[r3];omega,by rw[r3];exact hcfg3⟩;rw[r3];have:W3.v.t.grI 0=V.t.grI 0:=by show(W3.v.t.gr 0).getD (0:Int)=_;rw[hgr3]
    rw[this,hVgr];omega
end Go.Proofs.YtihggjgakbgomaaGreat
namespace Go.Proofs.YtihggjgakbgomaaGreat
open Go Go.Den Go.ChangeShapes Go.WideShapes Go.ChangeAt Go.RowKit
open Tryz (prog)
theorem gN:ownKnob prog.godebug=none:=iH
theorem laid:laidOutB prog=true:=iH
theorem call_of{g:FuncId}{T:Tr}(hS:pA prog g T){args:List Value}{W:aH}(h:T args W λv w'=>v=.bool true/\Of W w'):Calls prog g args.toArray W λe w'=>e=.returned (.bool true)/\Of W w':=
 (hS args W _ h).mono λe w' ⟨v,he,hv,hs⟩=>⟨by rw[he,hv],hs⟩
end Go.Proofs.YtihggjgakbgomaaGreat
namespace Go.Proofs.YtihggjgakbgomaaGreat
open Go Go.Den Go.ChangeShapes Go.WideShapes Go.ChangeAt Go.RowKit
open Tryz (prog)
def i1Of:List Int->Int
 | [x]=>x
 |_=>0
theorem i1Of_enc{r:List Int}(h:r.length=1):eI (i1Of r)=r.map (Value.int .i64):=by
 match r,h with
 | [x],_=>rfl
set_option maxRecDepth 100000 in
theorem arg_is{H:Type}{aX:TypeId×Value->H}{W:aH}{t b:Nat}{v:Value}{d:DataW H}{ps:List MemPlace}(ht:prog.underlying t=some (.slice cZ))(jk:Value.okWide prog W .any b t v)(h:DataW.Trod aX prog W 0 (λ_=>true) true t v d ps):
  ∃(s:Sl) (xs:List Int),v=.slice s.b s.l s.c/\Rd W s 1 eI xs:=by
 obtain⟨s,dY,rfl,hr,hl⟩:=arg_rows (m:=1) ht iH iH jk h;exact⟨s,dY.map i1Of,rfl,hr.map i1Of λr hr=>i1Of_enc (hl r hr)⟩
end Go.Proofs.YtihggjgakbgomaaGreat
namespace Go.Proofs.YtihggjgakbgomaaGreat
open Go Go.Den Go.ChangeShapes Go.WideShapes Go.ChangeAt Go.RowKit

end Go.Proofs.YtihggjgakbgomaaGreat
