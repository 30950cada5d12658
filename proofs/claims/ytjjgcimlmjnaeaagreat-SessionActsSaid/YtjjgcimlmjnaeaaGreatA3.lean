import Derived.Test.YtjjgcimlmjnaeaaGreatA2
namespace Go.Den
open Go
structure RelSt (n : Nat) (P : Int → Int → Prop) (ok : Arc → Prop) (ds : List Int) : Prop where
 len : ds.length = n
 val : ∀ (w : Nat) (d : Int), ds[w]? = some d → d = -1 ∨ (0 ≤ d ∧ P (w : Int) d ∧ d ≤ met ds * 1099511627776)
 rel : ∀ e, ok e → ∀ x y, ds[e.f.toNat]? = some x → ds[e.t.toNat]? = some y → 0 ≤ x → 0 ≤ y ∧ y ≤ x + e.w
def Nearer (ds ds' : List Int) : Prop := ∀ (w : Nat) (d : Int), ds[w]? = some d → 0 ≤ d → ∃ d', ds'[w]? = some d' ∧ 0 ≤ d' ∧ d' ≤ d
theorem Nearer.refl (ds : List Int) : Nearer ds ds := fun _ d h h0 => ⟨d, h, h0, Int.le_refl _⟩
theorem Nearer.trans {a b c : List Int} (h : Nearer a b) (h' : Nearer b c) : Nearer a c := fun w d hd h0 => by
 obtain ⟨d', h1, h2, h3⟩ := h w d hd h0
 obtain ⟨d'', h4, h5, h6⟩ := h' w d' h1 h2
 exact ⟨d'', h4, h5, by omega⟩
section
variable {n : Nat} {P : Int → Int → Prop} {ok : Arc → Prop} {ds : List Int}
theorem RelSt.same (h : RelSt n P ok ds) {e : Arc} (he : ∀ x y, ds[e.f.toNat]? = some x → ds[e.t.toNat]? = some y → 0 ≤ x → 0 ≤ y ∧ y ≤ x + e.w) : RelSt n P (fun e' => ok e' ∨ e' = e) ds :=
 ⟨h.len, h.val, fun e' he' => by rcases he' with h' | rfl; exact h.rel e' h'; exact he⟩
theorem RelSt.mono (h : RelSt n P ok ds) {ok' : Arc → Prop} (hs : ∀ e, ok' e → ok e) : RelSt n P ok' ds := ⟨h.len, h.val, fun e he => h.rel e (hs e he)⟩
theorem RelSt.bnd (h : RelSt n P ok ds) (hn : n ≤ 512) {w : Nat} {d : Int} (hd : ds[w]? = some d) : -2 < d ∧ d < 1000000000000000 := by
 have hml : met ds ≤ n := h.len ▸ met_le ds
 rcases h.val w d hd with h1 | ⟨h1, _, h3⟩ <;> omega
theorem RelSt.lower (h : RelSt n P ok ds) {e : Arc} (hm : mayA n e) {x y : Int} (hx : ds[e.f.toNat]? = some x) (hy : ds[e.t.toNat]? = some y) (hx0 : 0 ≤ x) (hlt : y < 0 ∨ x + e.w < y)
  (hP : P e.f x → P e.t (x + e.w)) (hok : ∀ e', ok e' → 0 ≤ e'.f ∧ e'.f ≠ e.t) : RelSt n P (fun e' => ok e' ∨ e' = e) (ds.set e.t.toNat (x + e.w)) ∧ Nearer ds (ds.set e.t.toNat (x + e.w)) := by
 obtain ⟨m1, m2, m3, m4, mne, m5, m6, _⟩ := hm
 have hmet := met_set (d := x + e.w) hy (by omega)
 have hml : met ds ≤ n := h.len ▸ met_le ds
 have htl : e.t.toNat < ds.length := by have := h.len; omega
 have ef : ((e.f.toNat : Nat) : Int) = e.f := by omega
 have et : ((e.t.toNat : Nat) : Int) = e.t := by omega
 have hxw : P e.f x ∧ x ≤ met ds * 1099511627776 := by
  rcases h.val _ _ hx with h1 | ⟨_, h2, h3⟩
  ·omega
  ·rw [ef] at h2; exact ⟨h2, h3⟩
 have hnew : x + e.w ≤ met (ds.set e.t.toNat (x + e.w)) * 1099511627776 := by
  rw [hmet]
  rcases hlt with hlt | hlt
  ·rw [if_pos hlt]; have := hxw.2; omega
  ·rcases h.val _ _ hy with hy' | ⟨_, _, hy'⟩
   ·rw [hy', if_pos (by omega)]; have := hxw.2; omega
   ·split <;> omega
 have near : Nearer ds (ds.set e.t.toNat (x + e.w)) := fun w d hd h0 => by
  rw [List.getElem?_set]
  by_cases hw : e.t.toNat = w
  ·subst hw
   rw [hy] at hd; cases hd
   rw [if_pos rfl, if_pos htl]
   exact ⟨_, rfl, by omega, by omega⟩
  ·rw [if_neg hw]; exact ⟨d, hd, h0, Int.le_refl _⟩
 refine ⟨⟨by rw [List.length_set]; exact h.len, fun w d hd => ?_, fun e' he' x' y' hx' hy' hx0' => ?_⟩, near⟩
 ·rw [List.getElem?_set] at hd
  by_cases hw : e.t.toNat = w
  ·rw [if_pos hw, if_pos htl] at hd
   cases hd
   subst hw
   rw [et]
   exact .inr ⟨by omega, hP hxw.1, hnew⟩
  ·rw [if_neg hw] at hd
   rcases h.val w d hd with h1 | ⟨h1, h2, h3⟩
   ·exact .inl h1
   ·refine .inr ⟨h1, h2, ?_⟩
    rw [hmet]; split <;> omega
 ·rcases he' with he' | rfl
  ·obtain ⟨f0, fne⟩ := hok e' he'
   rw [List.getElem?_set, if_neg (by omega)] at hx'
   rw [List.getElem?_set] at hy'
   by_cases hw : e.t.toNat = e'.t.toNat
   ·rw [if_pos hw, if_pos htl] at hy'
    cases hy'
    rw [hw] at hy
    have := h.rel e' he' x' y hx' hy hx0'
    omega
   ·rw [if_neg hw] at hy'
    exact h.rel e' he' x' y' hx' hy' hx0'
  ·rw [List.getElem?_set, if_neg (by omega), hx] at hx'
   cases hx'
   rw [List.getElem?_set, if_pos rfl, if_pos htl] at hy'
   cases hy'
   omega
end
section
variable {n : Nat} {A : List Arc} {rs : List Int} {a : Int}
end
theorem rank_ne {n : Nat} {L : List Arc} (hL : OkL n L) (hw : ∀ e ∈ L, e.w ≤ 40) (hn : n ≤ 51) {x y : Int} (x0 : 0 ≤ x) (x1 : x < n) (y0 : 0 ≤ y) (y1 : y < n) (hne : x ≠ y) : rankOf (bldN n L n).rank x ≠ rankOf (bldN n L n).rank y := by
 have hi := bld_inv hL hw hn n (Nat.le_refl n)
 rw [rank_val hL hw hn x0 x1, rank_val hL hw hn y0 y1]
 intro e
 have := hi.inj x.toNat y.toNat (by omega) (by omega) (bld_all hi _ (by omega)) (bld_all hi _ (by omega)) e
 omega
theorem rank_rng {n : Nat} {L : List Arc} (hL : OkL n L) (hw : ∀ e ∈ L, e.w ≤ 40) (hn : n ≤ 51) {x : Int} (x0 : 0 ≤ x) (x1 : x < n) : 0 ≤ rankOf (bldN n L n).rank x ∧ rankOf (bldN n L n).rank x < n := by
 have hi := bld_inv hL hw hn n (Nat.le_refl n)
 rw [rank_val hL hw hn x0 x1]
 exact hi.rk x.toNat (by omega) (bld_all hi _ (by omega))
end Go.Den

namespace Go.Den
open Go
inductive GW (src : Int → Prop) (nx : Int → List Arc) (en : Arc → Int) : Int → Int → Prop where
 | nil {v : Int} (h : src v) : GW src nx en v 0
 | snoc {v d : Int} (e : Arc) (h : GW src nx en v d) (he : e ∈ nx v) : GW src nx en (en e) (d + e.w)
def LeastIs (P : Int → Prop) (d : Int) : Prop := (d = -1 ∧ ∀ k, ¬ P k) ∨ (0 ≤ d ∧ P d ∧ ∀ k, P k → d ≤ k)
theorem LeastIs.one {P : Int → Prop} {x y : Int} (hx : LeastIs P x) (hy : LeastIs P y) : x = y := by
 rcases hx with ⟨h1, h2⟩ | ⟨h1, h2, h3⟩ <;> rcases hy with ⟨g1, g2⟩ | ⟨g1, g2, g3⟩
 ·rw [h1, g1]
 ·exact absurd g2 (h2 _)
 ·exact absurd h2 (g2 _)
 ·have := h3 _ g2; have := g3 _ h2; omega
theorem LeastIs.congr {P P' : Int → Prop} {x : Int} (h : LeastIs P x) (hp : ∀ k, P k ↔ P' k) : LeastIs P' x := by
 rcases h with ⟨h1, h2⟩ | ⟨h1, h2, h3⟩
 ·exact .inl ⟨h1, fun k hk => h2 k ((hp k).2 hk)⟩
 ·exact .inr ⟨h1, (hp _).1 h2, fun k hk => h3 k ((hp k).2 hk)⟩
def FarIs (n : Nat) (P : Int → Int → Prop) (ds : List Int) : Prop := ds.length = n ∧ ∀ (v : Nat) (d : Int), ds[v]? = some d → LeastIs (P (v : Int)) d
theorem FarIs.one {n : Nat} {P : Int → Int → Prop} {ds es : List Int} (h : FarIs n P ds) (h' : FarIs n P es) : ds = es := by
 apply List.ext_getElem?
 intro v
 by_cases hv : v < n
 ·have h1 := List.getElem?_eq_getElem (show v < ds.length by rw [h.1]; exact hv)
  have h2 := List.getElem?_eq_getElem (show v < es.length by rw [h'.1]; exact hv)
  rw [h1, h2, (h.2 v _ h1).one (h'.2 v _ h2)]
 ·rw [List.getElem?_eq_none (by rw [h.1]; omega), List.getElem?_eq_none (by rw [h'.1]; omega)]
abbrev BW : Int := 1099511627776
structure NxOk (n : Nat) (src : Int → Prop) (nx : Int → List Arc) (en : Arc → Int) : Prop where
 src : ∀ v, src v → 0 ≤ v ∧ v < n
 arc : ∀ v, ∀ e ∈ nx v, 0 ≤ en e ∧ en e < n ∧ 1 ≤ e.w ∧ e.w ≤ BW
theorem GW.rng {n : Nat} {src : Int → Prop} {nx : Int → List Arc} {en : Arc → Int} (hN : NxOk n src nx en) {v d : Int} (h : GW src nx en v d) : 0 ≤ v ∧ v < n ∧ 0 ≤ d := by
 induction h with
 | nil h => have := hN.src _ h; omega
 | snoc e _ he ih => have := hN.arc _ e he; omega
def BackOk (src : Int → Prop) (nx : Int → List Arc) (en : Arc → Int) (ds : List Int) (v d u : Int) : Prop :=
 (u = -1 ∧ src v ∧ d = 0) ∨ (0 ≤ u ∧ ∃ e c, ds[u.toNat]? = some c ∧ 0 ≤ c ∧ e ∈ nx u ∧ en e = v ∧ c + e.w = d)
structure GInv (n : Nat) (src : Int → Prop) (nx : Int → List Arc) (en : Arc → Int) (ok : Int → Arc → Prop) (ds bs : List Int) (q : List It) (kn : Int → Option Int) : Prop where
 dl : ds.length = n
 bl : bs.length = n
 setl : ∀ (v : Nat) (d : Int), ds[v]? = some d → d = -1 ∨ (0 ≤ d ∧ GW src nx en (v : Int) d ∧ (∀ k, GW src nx en (v : Int) k → d ≤ k) ∧ d + BW ≤ met ds * BW ∧ ∃ u, bs[v]? = some u ∧ BackOk src nx en ds (v : Int) d u)
 qi : ∀ y ∈ q, 0 ≤ y.id ∧ y.id < n ∧ ds[y.id.toNat]? = some (-1) ∧ GW src nx en y.id y.key ∧ y.key ≤ met ds * BW ∧ ∃ u, kn y.id = some u ∧ BackOk src nx en ds y.id y.key u
 fr : ∀ (v : Nat) (d : Int) (e : Arc), ds[v]? = some d → 0 ≤ d → e ∈ nx (v : Int) → ok (v : Int) e → (∃ c, ds[(en e).toNat]? = some c ∧ 0 ≤ c) ∨ ∃ y ∈ q, y.id = en e ∧ y.key ≤ d + e.w
 sr : ∀ v, src v → (∃ d, ds[v.toNat]? = some d ∧ 0 ≤ d) ∨ ∃ y ∈ q, y.id = v ∧ y.key ≤ 0
theorem GInv.mono {n : Nat} {src : Int → Prop} {nx : Int → List Arc} {en : Arc → Int} {ok ok' : Int → Arc → Prop} {ds bs : List Int} {q : List It} {kn : Int → Option Int} (h : GInv n src nx en ok ds bs q kn) (hm : ∀ v e, e ∈ nx v → ok' v e → ok v e) : GInv n src nx en ok' ds bs q kn :=
 ⟨h.dl, h.bl, h.setl, h.qi, fun v d e hd h0 he hok => h.fr v d e hd h0 he (hm _ e he hok), h.sr⟩
section
variable {n : Nat} {src : Int → Prop} {nx : Int → List Arc} {en : Arc → Int} {ok : Int → Arc → Prop} {ds bs : List Int} {q : List It} {kn : Int → Option Int}
theorem GInv.le (h : GInv n src nx en ok ds bs q kn) {v : Nat} {d : Int} (hd : ds[v]? = some d) (h0 : 0 ≤ d) : ∀ k, GW src nx en (v : Int) k → d ≤ k := by
 rcases h.setl v d hd with h1 | ⟨_, _, h1, _⟩
 ·omega
 ·exact h1
theorem GInv.gw (h : GInv n src nx en ok ds bs q kn) {v : Nat} {d : Int} (hd : ds[v]? = some d) (h0 : 0 ≤ d) : GW src nx en (v : Int) d := by
 rcases h.setl v d hd with h1 | ⟨_, h1, _⟩
 ·omega
 ·exact h1
theorem GInv.reach (h : GInv n src nx en (fun _ _ => True) ds bs q kn) (hN : NxOk n src nx en) {v d : Int} (hw : GW src nx en v d) : (∃ c, ds[v.toNat]? = some c ∧ 0 ≤ c ∧ c ≤ d) ∨ ∃ y ∈ q, y.key ≤ d := by
 induction hw with
 | nil hs =>
  rcases h.sr _ hs with ⟨c, h1, h2⟩ | ⟨y, hy, _, hk⟩
  ·have hr := hN.src _ hs
   exact .inl ⟨c, h1, h2, h.le h1 h2 0 (by rw [show ((Int.toNat _ : Nat) : Int) = _ from Int.toNat_of_nonneg hr.1]; exact .nil hs)⟩
  ·exact .inr ⟨y, hy, hk⟩
 | @snoc v d e hw he ih =>
  have hr := hw.rng hN
  have ha := hN.arc _ e he
  have ev : ((v.toNat : Nat) : Int) = v := Int.toNat_of_nonneg hr.1
  have ee : (((en e).toNat : Nat) : Int) = en e := Int.toNat_of_nonneg ha.1
  rcases ih with ⟨c, h1, h2, h3⟩ | ⟨y, hy, hk⟩
  ·rcases h.fr v.toNat c e h1 h2 (by rw [ev]; exact he) trivial with ⟨c', h4, h5⟩ | ⟨y, hy, _, hk⟩
   ·refine .inl ⟨c', h4, h5, h.le h4 h5 _ ?_⟩
    rw [ee]; exact .snoc e hw he
   ·exact .inr ⟨y, hy, by omega⟩
  ·exact .inr ⟨y, hy, by omega⟩
theorem BackOk.set {v d u : Int} (h : BackOk src nx en ds v d u) {i : Nat} {x : Int} (hi : ds[i]? = some (-1)) : BackOk src nx en (ds.set i x) v d u := by
 rcases h with h | ⟨h0, e, c, h1, h2, h3⟩
 ·exact .inl h
 ·refine .inr ⟨h0, e, c, ?_, h2, h3⟩
  rw [List.getElem?_set]
  by_cases ee : i = u.toNat
  ·rw [← ee, hi] at h1; cases h1; omega
  ·rw [if_neg ee]; exact h1
theorem GInv.pop {x : It} (h : GInv n src nx en (fun _ _ => True) ds bs (x :: q) kn) (hN : NxOk n src nx en) (hs : QSrt (x :: q)) (h1 : One (x :: q)) {u : Int} (hu : kn x.id = some u) :
  GInv n src nx en (fun v _ => v ≠ x.id) (ds.set x.id.toNat x.key) (bs.set x.id.toNat u) q kn ∧ met (ds.set x.id.toNat x.key) = met ds + 1 := by
 obtain ⟨i0, i1, hx, gx, kb, u', hu', bk⟩ := h.qi x (by simp)
 rw [hu] at hu'; cases hu'
 have ex : ((x.id.toNat : Nat) : Int) = x.id := Int.toNat_of_nonneg i0
 have k0 : 0 ≤ x.key := (gx.rng hN).2.2
 have hm : met (ds.set x.id.toNat x.key) = met ds + 1 := by rw [met_set hx k0, if_pos (by omega)]
 have hlt : x.id.toNat < ds.length := by rw [h.dl]; omega
 have hne : ∀ y ∈ q, y.id ≠ x.id := fun y hy e => by
  have := h1 y (by simp [hy]) x (by simp) e
  subst this
  have := (List.pairwise_cons.1 hs).1 y hy
  rw [itlt_iff] at this; omega
 have old : ∀ {v : Nat} {d : Int}, ds[v]? = some d → 0 ≤ d → (ds.set x.id.toNat x.key)[v]? = some d := fun {v d} hd h0 => by
  rw [List.getElem?_set]
  by_cases e : x.id.toNat = v
  ·rw [← e, hx] at hd; cases hd; omega
  ·rw [if_neg e]; exact hd
 have self : (ds.set x.id.toNat x.key)[x.id.toNat]? = some x.key := by rw [List.getElem?_set, if_pos rfl, if_pos hlt]
 refine ⟨⟨by rw [List.length_set]; exact h.dl, by rw [List.length_set]; exact h.bl, fun v d hd => ?_, fun y hy => ?_, fun v d e hd h0 he hok => ?_, fun v hv => ?_⟩, hm⟩
 ·rw [hm]
  by_cases e : x.id.toNat = v
  ·subst e
   rw [self] at hd; cases hd
   refine .inr ⟨k0, by rw [ex]; exact gx, fun k hk => ?_, ?_, u, ?_, by rw [ex]; exact bk.set hx⟩
   ·rw [ex] at hk
    rcases h.reach hN hk with ⟨c, g1, g2, _⟩ | ⟨y, hy, hyk⟩
    ·rw [hx] at g1; cases g1; omega
    ·rcases List.mem_cons.1 hy with rfl | hy
     ·exact hyk
     ·have := (List.pairwise_cons.1 hs).1 y hy
      rw [itlt_iff] at this; omega
   ·simp only [BW] at *; omega
   ·rw [List.getElem?_set, if_pos rfl, if_pos (by rw [h.bl]; omega)]
  ·rw [List.getElem?_set, if_neg e] at hd
   rcases h.setl v d hd with h2 | ⟨h2, h3, h4, h5, w, h6, h7⟩
   ·exact .inl h2
   ·refine .inr ⟨h2, h3, h4, by simp only [BW] at *; omega, w, ?_, h7.set hx⟩
    rw [List.getElem?_set, if_neg e]; exact h6
 ·obtain ⟨a0, a1, a2, a3, a4, w, a5, a6⟩ := h.qi y (by simp [hy])
  refine ⟨a0, a1, ?_, a3, by rw [hm]; simp only [BW] at *; omega, w, a5, a6.set hx⟩
  rw [List.getElem?_set, if_neg (fun e => hne y hy (by omega))]; exact a2
 ·have hvx : v ≠ x.id.toNat := fun e => hok (by omega)
  rw [List.getElem?_set, if_neg (fun e => hvx e.symm)] at hd
  rcases h.fr v d e hd h0 he trivial with ⟨c, g1, g2⟩ | ⟨y, hy, g1, g2⟩
  ·exact .inl ⟨c, old g1 g2, g2⟩
  ·rcases List.mem_cons.1 hy with rfl | hy
   ·exact .inl ⟨_, by rw [← g1]; exact self, k0⟩
   ·exact .inr ⟨y, hy, g1, g2⟩
 ·rcases h.sr v hv with ⟨d, g1, g2⟩ | ⟨y, hy, g1, g2⟩
  ·exact .inl ⟨d, old g1 g2, g2⟩
  ·rcases List.mem_cons.1 hy with rfl | hy
   ·exact .inl ⟨_, by rw [← g1]; exact self, k0⟩
   ·exact .inr ⟨y, hy, g1, g2⟩
theorem GInv.skip (h : GInv n src nx en ok ds bs q kn) {v : Int} {e : Arc} {c : Int} (hc : ds[(en e).toNat]? = some c) (h0 : 0 ≤ c) : GInv n src nx en (fun v' e' => ok v' e' ∨ (v' = v ∧ e' = e)) ds bs q kn :=
 ⟨h.dl, h.bl, h.setl, h.qi, fun v' d e' hd hd0 he hok => by
  rcases hok with hok | ⟨_, rfl⟩
  ·exact h.fr v' d e' hd hd0 he hok
  ·exact .inl ⟨c, hc, h0⟩, h.sr⟩
def knP (kn : Int → Option Int) (b : Bool) (t v : Int) : Int → Option Int := if b then fun y => if y = t then some v else kn y else kn
theorem GInv.push (h : GInv n src nx en ok ds bs q kn) (hN : NxOk n src nx en) (h1 : One q) {v : Nat} {d : Int} {e : Arc} (hd : ds[v]? = some d) (h0 : 0 ≤ d) (he : e ∈ nx (v : Int)) (hc : ds[(en e).toNat]? = some (-1)) :
  GInv n src nx en (fun v' e' => ok v' e' ∨ (v' = (v : Int) ∧ e' = e)) ds bs (pushQ q (en e) (d + e.w)).1 (knP kn (pushQ q (en e) (d + e.w)).2 (en e) (v : Int)) := by
 have ha := hN.arc _ e he
 have keep := fun {x : It} hx => push_keep h1 (v := en e) (k := d + e.w) (x := x) hx
 have low := push_low (q := q) (v := en e) (k := d + e.w)
 refine ⟨h.dl, h.bl, h.setl, fun y hy => ?_, fun v' d' e' hd' hd0 he' hok => ?_, fun v' hv' => ?_⟩
 ·have hone := push_one h1 (en e) (d + e.w)
  have hmem : y ∈ q ∨ y = ⟨en e, d + e.w⟩ := push_mem hy
  unfold pushQ at hy hone ⊢
  by_cases hl : lowQ q (en e) (d + e.w) = true
  ·rw [if_pos hl] at hy ⊢
   exact h.qi y hy
  ·rw [if_neg hl] at hy hone ⊢
   have hnew : (⟨en e, d + e.w⟩ : It) ∈ insQ (q.filter fun y => decide (y.id ≠ en e)) ⟨en e, d + e.w⟩ := mem_insQ.2 (.inl rfl)
   by_cases hid : y.id = en e
   ·have := hone y hy _ hnew hid
    subst this
    have hb : d + BW ≤ met ds * BW := by
     rcases h.setl v d hd with h2 | ⟨_, _, _, h2, _⟩
     ·omega
     ·exact h2
    refine ⟨ha.1, ha.2.1, hc, .snoc e (h.gw hd h0) he, by simp only [BW] at *; omega, (v : Int), ?_, .inr ⟨by omega, e, d, ?_, h0, he, rfl, rfl⟩⟩
    ·simp [knP]
    ·rw [Int.toNat_natCast]; exact hd
   ·have hyq : y ∈ q := hmem.resolve_right fun e' => hid (by rw [e'])
    obtain ⟨a0, a1, a2, a3, a4, w, a5, a6⟩ := h.qi y hyq
    refine ⟨a0, a1, a2, a3, a4, w, ?_, a6⟩
    simp only [knP, if_true]
    rw [if_neg hid]; exact a5
 ·rcases hok with hok | ⟨hv, rfl⟩
  ·rcases h.fr v' d' e' hd' hd0 he' hok with g | ⟨y, hy, g1, g2⟩
   ·exact .inl g
   ·obtain ⟨y', hy', e1, e2⟩ := keep hy
    exact .inr ⟨y', hy', e1.trans g1, by omega⟩
  ·have : v' = v := by omega
   subst this
   rw [hd] at hd'; cases hd'
   exact .inr low
 ·rcases h.sr v' hv' with g | ⟨y, hy, g1, g2⟩
  ·exact .inl g
  ·obtain ⟨y', hy', e1, e2⟩ := keep hy
   exact .inr ⟨y', hy', e1.trans g1, by omega⟩
structure Grown (n : Nat) (src : Int → Prop) (nx : Int → List Arc) (en : Arc → Int) (ds bs : List Int) : Prop where
 far : FarIs n (GW src nx en) ds
 bl : bs.length = n
 back : ∀ (v : Nat) (d : Int), ds[v]? = some d → 0 ≤ d → ∃ u, bs[v]? = some u ∧ BackOk src nx en ds (v : Int) d u
 bnd : ∀ (v : Nat) (d : Int), ds[v]? = some d → -1 ≤ d ∧ d ≤ n * BW
theorem GInv.done (h : GInv n src nx en (fun _ _ => True) ds bs [] kn) (hN : NxOk n src nx en) : Grown n src nx en ds bs := by
 refine ⟨⟨h.dl, fun v d hd => ?_⟩, h.bl, fun v d hd h0 => ?_, fun v d hd => ?_⟩
 ·rcases h.setl v d hd with h1 | ⟨h1, h2, h3, _⟩
  ·refine .inl ⟨h1, fun k hk => ?_⟩
   rcases h.reach hN hk with ⟨c, g1, g2, _⟩ | ⟨y, hy, _⟩
   ·rw [Int.toNat_natCast, hd] at g1; cases g1; omega
   ·cases hy
  ·exact .inr ⟨h1, h2, h3⟩
 ·rcases h.setl v d hd with h1 | ⟨_, _, _, _, h1⟩
  ·omega
  ·exact h1
 ·have hm := met_le ds
  rw [h.dl] at hm
  rcases h.setl v d hd with h1 | ⟨h0, _, _, h1, _⟩
  ·simp only [BW]; omega
  ·simp only [BW] at *; omega
theorem GInv.start (hN : NxOk n src nx en) {q : List It} {kn : Int → Option Int} (hq : ∀ y ∈ q, y.key = 0 ∧ src y.id ∧ kn y.id = some (-1)) (hs : ∀ v, src v → ∃ y ∈ q, y.id = v) :
  GInv n src nx en (fun _ _ => True) (List.replicate n (-1)) (List.replicate n (-1)) q kn := by
 have rep : ∀ {v : Nat} {d : Int}, (List.replicate n (-1 : Int))[v]? = some d → d = -1 := fun {v d} h => by
  rw [List.getElem?_replicate] at h
  split at h
  ·exact (Option.some.inj h).symm
  ·cases h
 refine ⟨by simp, by simp, fun v d hd => .inl (rep hd), fun y hy => ?_, fun v d e hd h0 => by have := rep hd; omega, fun v hv => ?_⟩
 ·obtain ⟨h1, h2, h3⟩ := hq y hy
  have hr := hN.src _ h2
  refine ⟨hr.1, hr.2, ?_, by rw [h1]; exact .nil h2, by rw [h1]; simp only [BW]; omega, -1, h3, .inl ⟨rfl, h2, h1⟩⟩
  rw [List.getElem?_replicate, if_pos (by omega)]
 ·obtain ⟨y, hy, e⟩ := hs v hv
  exact .inr ⟨y, hy, e, by rw [(hq y hy).1]; exact Int.le_refl _⟩
end
def inSrc (n : Nat) (fs : List Int) (v : Int) : Prop := v ∈ fs ∧ 0 ≤ v ∧ v < n
end Go.Den

namespace Go.Den
open Go
section
variable {n : Nat} {L : List Arc} (hL : OkL n L) (hw : ∀ e ∈ L, e.w ≤ 40) (hn : n ≤ 30)
include hL hw hn
end
inductive WayIs (A : List Arc) : Int → Int → List Int → Prop where
 | own {e : Arc} (he : e ∈ A) (hm : e.m < 0) : WayIs A e.f e.t [e.f, e.t]
 | cut {e : Arc} {x y : List Int} (he : e ∈ A) (hm : 0 ≤ e.m) (hx : WayIs A e.f e.m x) (hy : WayIs A e.m e.t y) : WayIs A e.f e.t (x ++ y.tail)
inductive Along (L : List Arc) : List Int → Int → Prop where
 | one (v : Int) : Along L [v] 0
 | cons {e : Arc} {f t : Int} {l : List Int} {d : Int} (he : e ∈ L) (hf : e.f = f) (ht : e.t = t) (h : Along L (t :: l) d) : Along L (f :: t :: l) (e.w + d)
inductive Thru (L : List Arc) : List Int → Int → Prop where
 | one (v : Int) : Thru L [v] 0
 | cons {a b : Int} {l : List Int} {c d : Int} (hne : a ≠ b) (h : Walk L (-1) a b c) (h' : Thru L (b :: l) d) : Thru L (a :: b :: l) (c + d)
structure UnpOk (n : Nat) (L A : List Arc) (R : List Int) : Prop where
 okl : OkL n L
 ok : OkL n A
 own : ∀ y ∈ A, y.m < 0 → y ∈ L
 half : ∀ e ∈ A, 0 ≤ e.m → e.m < n ∧ (∃ a ∈ A, ∃ b ∈ A, a.f = e.f ∧ a.t = e.m ∧ b.f = e.m ∧ b.t = e.t ∧ a.w + b.w = e.w) ∧ rankOf R e.m < rankOf R e.f ∧ rankOf R e.m < rankOf R e.t
 rng : ∀ x : Int, 0 ≤ x → x < n → 0 ≤ rankOf R x
 via : ∀ e ∈ A, 0 ≤ e.m → ∀ d, Walk L (-1) e.f e.t d → ∃ d1 d2, Walk L (-1) e.f e.m d1 ∧ Walk L (-1) e.m e.t d2 ∧ d1 + d2 ≤ d
 back : ∀ y ∈ A, Walk L (-1) y.f y.t y.w
section
variable {n : Nat} {L A : List Arc} {R : List Int} (H : UnpOk n L A R)
include H
omit H in
theorem Walk.pos1 (hL : OkL n L) {c a b d : Int} (h : Walk L c a b d) (hne : a ≠ b) : 1 ≤ d := by
 cases h with
 | nil => exact absurd rfl hne
 | snoc e h he _ _ =>
  have := h.pos hL
  have := (hL.may e he).2.2.2.2.2.1
  omega
omit H in
theorem Thru.pos (hL : OkL n L) {l : List Int} {d : Int} (h : Thru L l d) : 0 ≤ d := by
 induction h with
 | one => exact Int.le_refl _
 | cons hne hw _ ih => have := hw.pos1 hL hne; omega
omit H in
theorem Thru.mid (hL : OkL n L) {l : List Int} {d : Int} (h : Thru L l d) : ∀ v t, v ∈ l → l.getLast? = some t → ∃ d1 d2, Walk L (-1) (l.headD 0) v d1 ∧ Walk L (-1) v t d2 ∧ d1 + d2 ≤ d := by
 induction h with
 | one u =>
  intro v t hv ht
  simp at hv ht
  subst hv; subst ht
  exact ⟨0, 0, .nil, .nil, by omega⟩
 | @cons a b l c d hne hw h ih =>
  intro v t hv ht
  have ht' : (b :: l).getLast? = some t := by simpa using ht
  rcases List.mem_cons.1 hv with rfl | hv
  ·obtain ⟨d1, d2, h1, h2, h3⟩ := ih b t (by simp) ht'
   have h2' : Walk L (-1) b t d2 := h2
   have := h1.pos hL
   exact ⟨0, c + d2, .nil, hw.trans h2', by omega⟩
  ·obtain ⟨d1, d2, h1, h2, h3⟩ := ih v t hv ht'
   exact ⟨c + d1, d2, hw.trans h1, h2, by omega⟩
end
open Classical in
inductive PendW (A : List Arc) : List (Int × Int) → List Int → Nat → Prop where
 | nil : PendW A [] [] 0
 | cons {f t : Int} {x l : List Int} {k : Nat} {r : List (Int × Int)} (hx : WayIs A f t x) (h : PendW A r l k) : PendW A ((f, t) :: r) (x.tail ++ l) (2 * x.length - 3 + k)
end Go.Den

namespace Go.Den
open Go
def MeetIs (us ds : List Int) (k : Nat) (at_ far : Int) : Prop :=
 (at_ = -1 ∧ far = 0 ∧ ∀ v x y, v < k → us[v]? = some x → ds[v]? = some y → ¬ (0 ≤ x ∧ 0 ≤ y)) ∨
 (0 ≤ at_ ∧ at_ < k ∧ ∃ x y, us[at_.toNat]? = some x ∧ ds[at_.toNat]? = some y ∧ 0 ≤ x ∧ 0 ≤ y ∧ far = x + y ∧ ∀ v x' y', v < k → us[v]? = some x' → ds[v]? = some y' → 0 ≤ x' → 0 ≤ y' → far ≤ x' + y')
def DP (P1 P2 : Int → Int → Prop) (d : Int) : Prop := ∃ m u v, P1 m u ∧ P2 m v ∧ d = u + v
theorem MeetIs.start (us ds : List Int) : MeetIs us ds 0 (-1) 0 := .inl ⟨rfl, rfl, fun v x y hv => by omega⟩
section
variable {us ds : List Int} {k : Nat} {at_ far x y : Int}
theorem MeetIs.skip (h : MeetIs us ds k at_ far) (hx : us[k]? = some x) (hy : ds[k]? = some y) (hno : 0 ≤ x → 0 ≤ y → 0 ≤ at_ ∧ far ≤ x + y) : MeetIs us ds (k + 1) at_ far := by
 rcases h with ⟨h1, h2, h3⟩ | ⟨h1, h2, x0, y0, g1, g2, g3, g4, g5, g6⟩
 ·refine .inl ⟨h1, h2, fun v x' y' hv hx' hy' hh => ?_⟩
  rcases Nat.lt_or_ge v k with h | h
  ·exact h3 v x' y' h hx' hy' hh
  ·have : v = k := by omega
   subst this
   rw [hx] at hx'; rw [hy] at hy'; cases hx'; cases hy'
   have := (hno hh.1 hh.2).1; omega
 ·refine .inr ⟨h1, by omega, x0, y0, g1, g2, g3, g4, g5, fun v x' y' hv hx' hy' p1 p2 => ?_⟩
  rcases Nat.lt_or_ge v k with h | h
  ·exact g6 v x' y' h hx' hy' p1 p2
  ·have : v = k := by omega
   subst this
   rw [hx] at hx'; rw [hy] at hy'; cases hx'; cases hy'
   exact (hno p1 p2).2
theorem MeetIs.take (h : MeetIs us ds k at_ far) (hx : us[k]? = some x) (hy : ds[k]? = some y) (h0 : 0 ≤ x) (h1 : 0 ≤ y) (hlt : at_ < 0 ∨ x + y < far) : MeetIs us ds (k + 1) (k : Int) (x + y) := by
 refine .inr ⟨by omega, by omega, x, y, by rw [Int.toNat_natCast]; exact hx, by rw [Int.toNat_natCast]; exact hy, h0, h1, rfl, fun v x' y' hv hx' hy' p1 p2 => ?_⟩
 rcases Nat.lt_or_ge v k with hvk | hvk
 ·rcases h with ⟨g1, g2, g3⟩ | ⟨g1, g2, x0, y0, _, _, _, _, _, g6⟩
  ·exact absurd ⟨p1, p2⟩ (g3 v x' y' hvk hx' hy')
  ·have := g6 v x' y' hvk hx' hy' p1 p2; omega
 ·have : v = k := by omega
  subst this
  rw [hx] at hx'; rw [hy] at hy'; cases hx'; cases hy'
  exact Int.le_refl _
theorem MeetIs.least {n : Nat} {P1 P2 : Int → Int → Prop} (h1 : FarIs n P1 us) (h2 : FarIs n P2 ds) (hr : ∀ v d, P1 v d → 0 ≤ v ∧ v < n) (h : MeetIs us ds n at_ far) : ∃ dd, LeastIs (DP P1 P2) dd ∧ far = max dd 0 ∧ (0 ≤ at_ ↔ 0 ≤ dd) := by
 have val : ∀ m u v, P1 m u → P2 m v → ∃ x y, us[m.toNat]? = some x ∧ ds[m.toNat]? = some y ∧ 0 ≤ x ∧ 0 ≤ y ∧ x ≤ u ∧ y ≤ v := fun m u v p1 p2 => by
  obtain ⟨m0, m1⟩ := hr m u p1
  have em : ((m.toNat : Nat) : Int) = m := Int.toNat_of_nonneg m0
  have g1 := List.getElem?_eq_getElem (show m.toNat < us.length by rw [h1.1]; omega)
  have g2 := List.getElem?_eq_getElem (show m.toNat < ds.length by rw [h2.1]; omega)
  have l1 := h1.2 _ _ g1
  have l2 := h2.2 _ _ g2
  rw [em] at l1 l2
  rcases l1 with ⟨_, l1⟩ | ⟨a0, _, a2⟩
  ·exact absurd p1 (l1 u)
  rcases l2 with ⟨_, l2⟩ | ⟨b0, _, b2⟩
  ·exact absurd p2 (l2 v)
  exact ⟨_, _, g1, g2, a0, b0, a2 u p1, b2 v p2⟩
 rcases h with ⟨e1, e2, e3⟩ | ⟨e1, e2, x, y, g1, g2, g3, g4, g5, g6⟩
 ·refine ⟨-1, .inl ⟨rfl, fun d ⟨m, u, v, p1, p2, _⟩ => ?_⟩, by rw [e2]; rfl, by omega⟩
  obtain ⟨x, y, q1, q2, q3, q4, _⟩ := val m u v p1 p2
  exact e3 m.toNat x y (by have := hr m u p1; omega) q1 q2 ⟨q3, q4⟩
 ·have ea : ((at_.toNat : Nat) : Int) = at_ := Int.toNat_of_nonneg e1
  refine ⟨far, .inr ⟨by omega, ⟨at_, x, y, ?_, ?_, g5⟩, fun d ⟨m, u, v, p1, p2, hd⟩ => ?_⟩, by omega, by omega⟩
  ·have := h1.2 _ _ g1
   rw [ea] at this
   rcases this with ⟨h, _⟩ | ⟨_, h, _⟩
   ·omega
   ·exact h
  ·have := h2.2 _ _ g2
   rw [ea] at this
   rcases this with ⟨h, _⟩ | ⟨_, h, _⟩
   ·omega
   ·exact h
  ·obtain ⟨x', y', q1, q2, q3, q4, q5, q6⟩ := val m u v p1 p2
   have := g6 m.toNat x' y' (by have := hr m u p1; omega) q1 q2 q3 q4
   omega
end
theorem DownW.cons {A : List Arc} {R : List Int} {x w d : Int} (e : Arc) (he : e ∈ A) (hr : rankOf R e.t < rankOf R e.f) (ht : e.t = x) (h : DownW A R x w d) : DownW A R e.f w (e.w + d) := by
 induction h with
 | nil => rw [Int.add_zero, ← ht]; have := DownW.snoc e (.nil e.f) he rfl hr; rwa [Int.zero_add] at this
 | snoc e' _ he' hf' hr' ih => rw [← Int.add_assoc]; exact .snoc e' ih he' hf' hr'
theorem down_gw {n : Nat} {A : List Arc} {R : List Int} {ts : List Int} {v d : Int} : GW (inSrc n ts) (downL A R) (fun e => e.f) v d ↔ ∃ t, inSrc n ts t ∧ DownW A R v t d := by
 constructor
 ·intro h
  induction h with
  | nil hs => exact ⟨_, hs, .nil _⟩
  | @snoc v d e _ he ih =>
   obtain ⟨t, ht, hd⟩ := ih
   have hm := List.mem_filter.1 he
   obtain ⟨h1, h2⟩ := mem_inL.1 hm.1
   refine ⟨t, ht, ?_⟩
   have := DownW.cons e h1 (by rw [h2]; simpa using hm.2) h2 hd
   rw [Int.add_comm]; exact this
 ·rintro ⟨t, ht, h⟩
  have key : ∀ {u b d' : Int}, DownW A R u b d' → ∀ d0, GW (inSrc n ts) (downL A R) (fun e => e.f) b d0 → GW (inSrc n ts) (downL A R) (fun e => e.f) u (d0 + d') := fun {u b d'} hd => by
   induction hd with
   | nil => intro d0 h0; rw [Int.add_zero]; exact h0
   | snoc e _ he hf hr ih =>
    intro d0 h0
    have := GW.snoc (en := fun e => e.f) e h0 (List.mem_filter.2 ⟨mem_inL.2 ⟨he, rfl⟩, by simpa using hr⟩)
    have this : GW (inSrc n ts) (downL A R) (fun e => e.f) e.f (d0 + e.w) := this
    have e2 : e.f = _ := hf
    rw [e2] at this
    have := ih _ this
    rw [Int.add_assoc, Int.add_comm e.w] at this
    exact this
  have := key h 0 (.nil ht)
  rwa [Int.zero_add] at this
end Go.Den

namespace Go.Den
open Go
structure CInv (n : Nat) (src : Int → Prop) (nx : Int → List Arc) (en : Arc → Int) (ds : List Int) : Prop where
 len : ds.length = n
 srcs : ∀ v, src v → ds[v.toNat]? = some 0
 val : ∀ (v : Nat) (d : Int), ds[v]? = some d → d = -1 ∨ (0 ≤ d ∧ GW src nx en (v : Int) d ∧ d + BW ≤ met ds * BW)
section
variable {n : Nat} {src : Int → Prop} {nx : Int → List Arc} {en : Arc → Int} {ds : List Int}
theorem CInv.lower (h : CInv n src nx en ds) (hN : NxOk n src nx en) (hn : n ≤ 512) {v : Nat} {x y : Int} {e : Arc} (hx : ds[v]? = some x) (hx0 : 0 ≤ x) (he : e ∈ nx (v : Int)) (hy : ds[(en e).toNat]? = some y) (hlt : y < 0 ∨ x + e.w < y) :
  CInv n src nx en (ds.set (en e).toNat (x + e.w)) ∧ total (ds.set (en e).toNat (x + e.w)) < total ds := by
 obtain ⟨m1, m2, m3, m4⟩ := hN.arc _ e he
 have hmet := met_set (d := x + e.w) hy (by omega)
 obtain ⟨gx, bx⟩ : GW src nx en (v : Int) x ∧ x + BW ≤ met ds * BW := by
  rcases h.val _ _ hx with h1 | ⟨_, h2, h3⟩
  ·omega
  ·exact ⟨h2, h3⟩
 have htl : (en e).toNat < ds.length := by rw [h.len]; omega
 have et : (((en e).toNat : Nat) : Int) = en e := Int.toNat_of_nonneg m1
 have hw : GW src nx en (en e) (x + e.w) := .snoc e gx he
 have hnew : x + e.w + BW ≤ met (ds.set (en e).toNat (x + e.w)) * BW := by
  rw [hmet]
  rcases hlt with hlt | hlt
  ·rw [if_pos hlt]; simp only [BW] at *; omega
  ·rcases h.val _ _ hy with hy' | ⟨_, _, hy'⟩
   ·rw [hy', if_pos (by omega)]; simp only [BW] at *; omega
   ·rw [if_neg (by omega)]; simp only [BW] at *; omega
 refine ⟨⟨by rw [List.length_set]; exact h.len, fun u hu => ?_, fun u d hd => ?_⟩, ?_⟩
 ·rw [List.getElem?_set]
  by_cases hat : (en e).toNat = u.toNat
  ·have := h.srcs u hu
   rw [← hat, hy] at this
   cases this; omega
  ·rw [if_neg hat]; exact h.srcs u hu
 ·rw [List.getElem?_set] at hd
  by_cases hat : (en e).toNat = u
  ·rw [if_pos hat, if_pos htl] at hd
   cases hd
   subst hat
   exact .inr ⟨by omega, by rw [et]; exact hw, hnew⟩
  ·rw [if_neg hat] at hd
   refine (h.val u d hd).imp id fun ⟨g1, g2, g3⟩ => ⟨g1, g2, ?_⟩
   have : met ds ≤ met (ds.set (en e).toNat (x + e.w)) := by rw [hmet]; omega
   simp only [BW] at *; omega
 ·have ht := total_set (d := x + e.w) hy
  have hm2 := met_le (ds.set (en e).toNat (x + e.w))
  rw [List.length_set, h.len] at hm2
  have hb : bulk (x + e.w) < bulk y := by
   unfold bulk
   rw [if_neg (by omega)]
   simp only [BW] at *
   split <;> omega
  omega
theorem CInv.done (h : CInv n src nx en ds) (hN : NxOk n src nx en) (hr : ∀ (v : Nat) (x y : Int) (e : Arc), ds[v]? = some x → 0 ≤ x → e ∈ nx (v : Int) → ds[(en e).toNat]? = some y → 0 ≤ y ∧ y ≤ x + e.w) : FarIs n (GW src nx en) ds := by
 have reach : ∀ {v d : Int}, GW src nx en v d → ∃ c, ds[v.toNat]? = some c ∧ 0 ≤ c ∧ c ≤ d := fun {v d} hw => by
  induction hw with
  | nil hs => exact ⟨0, h.srcs _ hs, Int.le_refl _, Int.le_refl _⟩
  | @snoc v d e hw he ih =>
   obtain ⟨c, h1, h2, h3⟩ := ih
   have hv := hw.rng hN
   have ev : ((v.toNat : Nat) : Int) = v := Int.toNat_of_nonneg hv.1
   obtain ⟨m1, m2, _⟩ := hN.arc _ e he
   have hy := List.getElem?_eq_getElem (show (en e).toNat < ds.length by rw [h.len]; omega)
   have := hr v.toNat c _ e h1 h2 (by rw [ev]; exact he) hy
   exact ⟨_, hy, this.1, by omega⟩
 refine ⟨h.len, fun v d hd => ?_⟩
 rcases h.val v d hd with h1 | ⟨h1, h2, _⟩
 ·refine .inl ⟨h1, fun k hk => ?_⟩
  obtain ⟨c, g1, g2, _⟩ := reach hk
  rw [Int.toNat_natCast, hd] at g1; cases g1; omega
 ·refine .inr ⟨h1, h2, fun k hk => ?_⟩
  obtain ⟨c, g1, _, g3⟩ := reach hk
  rw [Int.toNat_natCast, hd] at g1; cases g1; exact g3
end
end Go.Den

namespace Go.Den
open Go
theorem least_equiv {P P' : Int → Prop} {x : Int} (h : LeastIs P x) (h1 : ∀ d, P d → ∃ d', d' ≤ d ∧ P' d') (h2 : ∀ d, P' d → ∃ d', d' ≤ d ∧ P d') : LeastIs P' x := by
 rcases h with ⟨e, hn⟩ | ⟨h0, hx, hm⟩
 ·refine .inl ⟨e, fun k hk => ?_⟩
  obtain ⟨d', _, hd⟩ := h2 k hk
  exact hn d' hd
 ·obtain ⟨d', hle, hd⟩ := h1 x hx
  obtain ⟨d2, hle2, hd2⟩ := h2 d' hd
  have := hm d2 hd2
  have e : d' = x := by omega
  rw [e] at hd
  refine .inr ⟨h0, hd, fun k hk => ?_⟩
  obtain ⟨d3, hle3, hd3⟩ := h2 k hk
  have := hm d3 hd3
  omega
theorem LeastIs.or {P P' : Int → Prop} {b d : Int} (h : LeastIs P b) (h' : LeastIs P' d) : LeastIs (fun k => P k ∨ P' k) (if 0 ≤ d ∧ (b < 0 ∨ d < b) then d else b) := by
 rcases h with ⟨e, hn⟩ | ⟨h0, hx, hm⟩ <;> rcases h' with ⟨e', hn'⟩ | ⟨h0', hx', hm'⟩
 ·rw [if_neg (by omega)]; exact .inl ⟨e, fun k hk => hk.elim (hn k) (hn' k)⟩
 ·rw [if_pos (by omega)]; exact .inr ⟨h0', .inr hx', fun k hk => hk.elim (fun h => absurd h (hn k)) (hm' k)⟩
 ·rw [if_neg (by omega)]; exact .inr ⟨h0, .inl hx, fun k hk => hk.elim (hm k) fun h => absurd h (hn' k)⟩
 ·by_cases hlt : d < b
  ·rw [if_pos ⟨h0', .inr hlt⟩]
   exact .inr ⟨h0', .inr hx', fun k hk => hk.elim (fun h => by have := hm k h; omega) (hm' k)⟩
  ·rw [if_neg (by omega)]
   exact .inr ⟨h0, .inl hx, fun k hk => hk.elim (hm k) fun h => by have := hm' k h; omega⟩
theorem LeastIs.no {P : Int → Prop} (h : ∀ k, ¬ P k) : LeastIs P (-1) := .inl ⟨rfl, h⟩
theorem LeastIs.is {x : Int} (h : 0 ≤ x) : LeastIs (fun k => k = x) x := .inr ⟨h, rfl, fun k hk => by omega⟩
theorem DistIs.least {L : List Arc} {a v d : Int} (h : DistIs L a v d) : LeastIs (Walk L (-1) a v) d := h
section
variable {n : Nat} {L : List Arc} (hL : OkL n L) (hw : ∀ e ∈ L, e.w ≤ 40) (hn : n ≤ 51) {a : Int} (a0 : 0 ≤ a) (a1 : a < n)
include hL hw hn a0 a1
end
theorem LeastIs.le {P P' : Int → Prop} {x y : Int} (h : LeastIs P x) (h' : LeastIs P' y) (hs : ∀ k, P k → P' k) (h0 : 0 ≤ x) : 0 ≤ y ∧ y ≤ x := by
 rcases h with ⟨e, _⟩ | ⟨_, hx, _⟩
 ·omega
 ·rcases h' with ⟨_, hn⟩ | ⟨h1, _, hm⟩
  ·exact absurd (hs x hx) (hn x)
  ·exact ⟨h1, hm x (hs x hx)⟩
end Go.Den

namespace Go.Den
open Go
structure Gr where
 N : List (Int × Int)
 E : List (Int × Int × Int)
 B : List (Int × Int)
def Gr.m (G : Gr) : Nat := G.E.length
def Gr.n (G : Gr) : Nat := G.N.length
def Gr.ed (G : Gr) (i : Int) : Int × Int × Int := G.E.getD i.toNat (0, 0, 0)
abbrev Gr.fr (G : Gr) (i : Int) : Int := (G.ed i).1
abbrev Gr.to (G : Gr) (i : Int) : Int := (G.ed i).2.1
abbrev Gr.wt (G : Gr) (i : Int) : Int := (G.ed i).2.2
abbrev Gr.isE (G : Gr) (i : Int) : Prop := 0 ≤ i ∧ i < G.m
abbrev Gr.isN (G : Gr) (i : Int) : Prop := 0 ≤ i ∧ i < G.n
abbrev lex2 (a b : Int × Int) : Prop := a.1 < b.1 ∨ (a.1 = b.1 ∧ a.2 < b.2)
structure OkG (G : Gr) : Prop where
 n1 : 1 ≤ G.n ∧ G.n ≤ 256
 m1 : 1 ≤ G.m ∧ G.m ≤ 51
 nd : ∀ p ∈ G.N, (0 ≤ p.1 ∧ p.1 ≤ 4095) ∧ 0 ≤ p.2 ∧ p.2 ≤ 4095
 ed : ∀ e ∈ G.E, (0 ≤ e.1 ∧ e.1 < G.n) ∧ (0 ≤ e.2.1 ∧ e.2.1 < G.n) ∧ 1 ≤ e.2.2 ∧ e.2.2 ≤ 40
 bl : G.B.length ≤ 1024
 bd : ∀ b ∈ G.B, G.isE b.1 ∧ G.isE b.2 ∧ G.to b.1 = G.fr b.2
 bs : G.B.Pairwise lex2
def ints (k : Nat) : List Int := (List.range k).map fun i : Nat => (i : Int)
theorem mem_ints {k : Nat} {x : Int} : x ∈ ints k ↔ 0 ≤ x ∧ x < k := by
 unfold ints
 simp only [List.mem_map, List.mem_range]
 constructor
 ·rintro ⟨i, hi, rfl⟩; omega
 ·rintro ⟨h0, h1⟩; exact ⟨x.toNat, by omega, by omega⟩
theorem ints_len (k : Nat) : (ints k).length = k := by simp [ints]
theorem ints_succ (k : Nat) : ints (k + 1) = ints k ++ [(k : Int)] := by simp [ints, List.range_succ]
theorem ints_lt (k : Nat) : (ints k).Pairwise fun x y => x < y := by
 unfold ints
 rw [List.pairwise_map]
 exact List.Pairwise.imp (fun {a b : Nat} (h : a < b) => by omega) List.pairwise_lt_range
def Gr.turn (G : Gr) (a b : Int) : Bool := decide (G.isE a) && (decide (G.isE b) && (decide (G.to a = G.fr b) && !decide ((a, b) ∈ G.B)))
theorem Gr.turn_iff {G : Gr} {a b : Int} : G.turn a b = true ↔ G.isE a ∧ G.isE b ∧ G.to a = G.fr b ∧ (a, b) ∉ G.B := by
 unfold Gr.turn; simp [Bool.and_eq_true]
def Gr.nextL (G : Gr) (a : Int) : List Int := (ints G.m).filter fun b => G.turn a b
def Gr.prevL (G : Gr) (b : Int) : List Int := (ints G.m).filter fun a => G.turn a b
def Gr.inN (G : Gr) (v : Int) : List Int := (ints G.m).filter fun e => decide (G.to e = v)
def Gr.outN (G : Gr) (v : Int) : List Int := (ints G.m).filter fun e => decide (G.fr e = v)
theorem Gr.mem_next {G : Gr} {a b : Int} : b ∈ G.nextL a ↔ G.turn a b = true := by
 unfold Gr.nextL
 rw [List.mem_filter, mem_ints]
 exact ⟨fun h => h.2, fun h => ⟨(G.turn_iff.1 h).2.1, h⟩⟩
theorem Gr.mem_prev {G : Gr} {a b : Int} : a ∈ G.prevL b ↔ G.turn a b = true := by
 unfold Gr.prevL
 rw [List.mem_filter, mem_ints]
 exact ⟨fun h => h.2, fun h => ⟨(G.turn_iff.1 h).1, h⟩⟩
theorem Gr.mem_inN {G : Gr} {e v : Int} : e ∈ G.inN v ↔ G.isE e ∧ G.to e = v := by
 unfold Gr.inN
 rw [List.mem_filter, mem_ints]; simp
theorem Gr.next_len (G : Gr) (a : Int) : (G.nextL a).length ≤ G.m := by
 have := List.length_filter_le (fun b => G.turn a b) (ints G.m)
 rw [ints_len] at this; exact this
theorem Gr.prev_len (G : Gr) (a : Int) : (G.prevL a).length ≤ G.m := by
 have := List.length_filter_le (fun b => G.turn b a) (ints G.m)
 rw [ints_len] at this; exact this
theorem Gr.inN_len (G : Gr) (a : Int) : (G.inN a).length ≤ G.m := by
 have := List.length_filter_le (fun e => decide (G.to e = a)) (ints G.m)
 rw [ints_len] at this; exact this
theorem Gr.get_ed {G : Gr} {i : Int} (h : G.isE i) : G.E[i.toNat]? = some (G.ed i) := by
 have : i.toNat < G.E.length := by have := h.2; unfold Gr.m at this; omega
 unfold Gr.ed
 rw [List.getD_eq_getElem?_getD, List.getElem?_eq_getElem this]; rfl
theorem Gr.ed_mem {G : Gr} {i : Int} (h : G.isE i) : G.ed i ∈ G.E := List.mem_of_getElem? (G.get_ed h)
theorem OkG.w1 {G : Gr} (h : OkG G) {i : Int} (hi : G.isE i) : 1 ≤ G.wt i ∧ G.wt i ≤ 40 := (h.ed _ (G.ed_mem hi)).2.2
def Gr.arcs (G : Gr) : List Arc := (ints G.m).flatMap fun a => (G.nextL a).map fun b => ⟨a, b, G.wt b, -1⟩
def Gr.net (G : Gr) : List Arc := G.arcs.filter fun e => !(e.f == e.t)
theorem Gr.mem_arcs {G : Gr} {e : Arc} : e ∈ G.arcs ↔ G.turn e.f e.t = true ∧ e.w = G.wt e.t ∧ e.m = -1 := by
 unfold Gr.arcs
 simp only [List.mem_flatMap, List.mem_map, mem_ints]
 constructor
 ·rintro ⟨a, _, b, hb, rfl⟩; exact ⟨G.mem_next.1 hb, rfl, rfl⟩
 ·rintro ⟨h1, h2, h3⟩
  refine ⟨e.f, (G.turn_iff.1 h1).1, e.t, G.mem_next.2 h1, ?_⟩
  cases e; simp_all
theorem Gr.mem_net {G : Gr} {e : Arc} : e ∈ G.net ↔ (G.turn e.f e.t = true ∧ e.w = G.wt e.t ∧ e.m = -1) ∧ e.f ≠ e.t := by
 unfold Gr.net
 rw [List.mem_filter, G.mem_arcs]; simp
theorem Gr.arcs_srt (G : Gr) : LSrt G.arcs := by
 unfold LSrt Gr.arcs
 rw [List.pairwise_flatMap]
 refine ⟨fun a _ => ?_, List.Pairwise.imp (fun {a b} h x hx y hy => ?_) (ints_lt G.m)⟩
 ·rw [List.pairwise_map]
  have h : (G.nextL a).Pairwise fun x y : Int => x < y := List.Pairwise.filter _ (ints_lt G.m)
  refine List.Pairwise.imp (fun {x y : Int} (h : x < y) => ?_) h
  rw [lexlt_iff]; exact .inr ⟨rfl, h⟩
 ·obtain ⟨_, _, rfl⟩ := List.mem_map.1 hx
  obtain ⟨_, _, rfl⟩ := List.mem_map.1 hy
  exact lexlt_iff.2 (.inl h)
theorem OkG.net_may {G : Gr} (h : OkG G) : ∀ e ∈ G.net, mayA G.m e ∧ e.w ≤ 40 ∧ e.m = -1 := fun e he => by
 obtain ⟨⟨h1, h2, h3⟩, h4⟩ := G.mem_net.1 he
 obtain ⟨t1, t2, _, _⟩ := G.turn_iff.1 h1
 have hw := h.w1 t2
 exact ⟨⟨t1.1, t1.2, t2.1, t2.2, h4, by omega, by omega, .inl h3⟩, by omega, h3⟩
theorem OkG.net_ok {G : Gr} (h : OkG G) : OkL G.m G.net := ⟨List.Pairwise.filter _ G.arcs_srt, fun e he => (h.net_may e he).1⟩
theorem Gr.arcs_len (G : Gr) (hm : G.m ≤ 51) : G.arcs.length ≤ 2601 := by
 have := flat_len (fun a => (G.nextL a).map fun b => (⟨a, b, G.wt b, -1⟩ : Arc)) 51 (ints G.m) fun a _ => by rw [List.length_map]; have := G.next_len a; omega
 rw [ints_len] at this
 have h2 : G.m * 51 ≤ 51 * 51 := Nat.mul_le_mul_right _ hm
 unfold Gr.arcs; omega
def shutB (c : List Bool) (e : Int) : Bool := c.getD e.toNat false
theorem shut_nil (e : Int) : shutB [] e = false := rfl
def Gr.src (G : Gr) (v e : Int) : Prop := G.isE e ∧ G.to e = v
def Gr.nx (G : Gr) (c : List Bool) (b : Int) : List Arc := if shutB c b = true then [] else (G.prevL b).map fun a => ⟨a, b, G.wt b, -1⟩
theorem Gr.mem_nx {G : Gr} {c : List Bool} {b : Int} {e : Arc} : e ∈ G.nx c b ↔ shutB c b = false ∧ G.turn e.f b = true ∧ e = ⟨e.f, b, G.wt b, -1⟩ := by
 unfold Gr.nx
 split
 ·rename_i h; simp [h]
 ·rename_i h
  rw [List.mem_map]
  constructor
  ·rintro ⟨a, ha, rfl⟩; exact ⟨by simpa using h, G.mem_prev.1 ha, rfl⟩
  ·rintro ⟨_, h2, h3⟩; exact ⟨e.f, G.mem_prev.2 h2, h3.symm⟩
abbrev Gr.gw (G : Gr) (c : List Bool) (v : Int) : Int → Int → Prop := GW (G.src v) (G.nx c) (fun e => e.f)
theorem OkG.nxOk {G : Gr} (h : OkG G) (c : List Bool) (v : Int) : NxOk G.m (G.src v) (G.nx c) (fun e => e.f) := by
 refine ⟨fun e he => he.1, fun b e he => ?_⟩
 obtain ⟨_, h2, h3⟩ := G.mem_nx.1 he
 obtain ⟨t1, t2, _⟩ := G.turn_iff.1 h2
 have hw := h.w1 t2
 have : e.w = G.wt b := by rw [h3]
 exact ⟨t1.1, t1.2, by omega, by rw [this]; simp only [BW]; omega⟩
theorem Gr.gw_step {G : Gr} {c : List Bool} {v a b d : Int} (h : G.gw c v b d) (ht : G.turn a b = true) (hs : shutB c b = false) : G.gw c v a (d + G.wt b) :=
 GW.snoc (en := fun e => e.f) (⟨a, b, G.wt b, -1⟩ : Arc) h (G.mem_nx.2 ⟨hs, ht, rfl⟩)
theorem Gr.gw_inv {G : Gr} {c : List Bool} {v a d : Int} (h : G.gw c v a d) : (d = 0 ∧ G.src v a) ∨ ∃ b d', G.gw c v b d' ∧ G.turn a b = true ∧ shutB c b = false ∧ d = d' + G.wt b := by
 cases h with
 | nil h => exact .inl ⟨rfl, h⟩
 | @snoc b d' e h he =>
  obtain ⟨h1, h2, h3⟩ := G.mem_nx.1 he
  have hw : e.w = G.wt b := by rw [h3]
  exact .inr ⟨b, d', h, h2, h1, by rw [hw]⟩
theorem Gr.gw_open {G : Gr} {c : List Bool} {v a d : Int} (h : G.gw c v a d) : G.gw [] v a d := by
 induction h with
 | nil h => exact .nil h
 | snoc e h he ih =>
  obtain ⟨h1, h2, h3⟩ := G.mem_nx.1 he
  exact .snoc e ih (G.mem_nx.2 ⟨rfl, h2, h3⟩)
theorem OkG.gw_rng {G : Gr} (h : OkG G) {c : List Bool} {v a d : Int} (hw : G.gw c v a d) : G.isE a ∧ 0 ≤ d := by
 have := hw.rng (h.nxOk c v)
 exact ⟨⟨this.1, this.2.1⟩, this.2.2⟩
theorem OkG.walk_gw {G : Gr} {v a b d : Int} (h : Walk G.net (-1) a b d) : ∀ d0, G.gw [] v b d0 → G.gw [] v a (d0 + d) := by
 induction h with
 | nil => intro d0 h0; rw [Int.add_zero]; exact h0
 | @snoc x d e _ he hf _ ih =>
  intro d0 h0
  obtain ⟨⟨h1, h2, _⟩, _⟩ := G.mem_net.1 he
  have h3 := G.gw_step h0 h1 rfl
  rw [hf, ← h2] at h3
  have := ih _ h3
  rwa [show d0 + (d + e.w) = d0 + e.w + d by omega]
theorem OkG.gw_walk {G : Gr} (hG : OkG G) {v a d : Int} (h : G.gw [] v a d) : ∃ d' t, d' ≤ d ∧ G.src v t ∧ Walk G.net (-1) a t d' := by
 induction h with
 | @nil a h => exact ⟨0, a, Int.le_refl _, h, .nil⟩
 | @snoc b d e h he ih =>
  obtain ⟨_, h2, h3⟩ := G.mem_nx.1 he
  have hwe : e.w = G.wt b := by rw [h3]
  have hte : e.t = b := by rw [h3]
  have hme : e.m = -1 := by rw [h3]
  obtain ⟨d', t, hle, ht, hw⟩ := ih
  have hwt := hG.w1 (G.turn_iff.1 h2).2.1
  show ∃ d' t, d' ≤ d + e.w ∧ G.src v t ∧ Walk G.net (-1) e.f t d'
  by_cases hab : e.f = b
  ·rw [hab]; exact ⟨d', t, by omega, ht, hw⟩
  ·have hnet : e ∈ G.net := G.mem_net.2 ⟨⟨by rw [hte]; exact h2, by rw [hte]; exact hwe, hme⟩, by rw [hte]; exact hab⟩
   have h1 := Walk.snoc (a := e.f) e (.nil (L := G.net) (c := -1)) hnet rfl (by have := (G.turn_iff.1 h2).2.1.1; omega)
   rw [Int.zero_add, hte] at h1
   exact ⟨e.w + d', t, by omega, ht, h1.trans hw⟩
def dsv (ds : List Int) (e : Int) : Int := ds.getD e.toNat (-1)
abbrev Gr.far (G : Gr) (c : List Bool) (v : Int) (ds : List Int) : Prop := FarIs G.m (G.gw c v) ds
theorem far_get {n : Nat} {P : Int → Int → Prop} {ds : List Int} (h : FarIs n P ds) {e : Int} (he : 0 ≤ e ∧ e < n) : ds[e.toNat]? = some (dsv ds e) := by
 have : e.toNat < ds.length := by have := h.1; omega
 unfold dsv
 rw [List.getD_eq_getElem?_getD, List.getElem?_eq_getElem this]; rfl
theorem far_least {n : Nat} {P : Int → Int → Prop} {ds : List Int} (h : FarIs n P ds) {e : Int} (he : 0 ≤ e ∧ e < n) : LeastIs (P e) (dsv ds e) := by
 have := h.2 e.toNat _ (far_get h he)
 rwa [Int.toNat_of_nonneg he.1] at this
def Gr.okStep (G : Gr) (c : List Bool) (ds : List Int) (e n : Int) : Bool := !shutB c n && (decide (0 ≤ dsv ds n) && decide (dsv ds n + G.wt n = dsv ds e))
def Gr.stepP (G : Gr) (c : List Bool) (ds : List Int) (e : Int) : Option Int := (G.nextL e).find? (G.okStep c ds e)
inductive Gr.LWay (G : Gr) (c : List Bool) (ds : List Int) : Int → List Int → Prop where
 | nil {e : Int} (h : dsv ds e = 0) : LWay G c ds e []
 | cons {e n : Int} {l : List Int} (h : 0 < dsv ds e) (hs : G.stepP c ds e = some n) (hl : LWay G c ds n l) : LWay G c ds e (n :: l)
theorem Gr.LWay.uniq {G : Gr} {c : List Bool} {ds : List Int} {e : Int} {l l' : List Int} (h : G.LWay c ds e l) : G.LWay c ds e l' → l = l' := by
 induction h generalizing l' with
 | nil h => intro h'; cases h' with
  | nil => rfl
  | cons h1 => omega
 | cons h hs _ ih => intro h'; cases h' with
  | nil h1 => omega
  | cons _ hs' hl' =>
   rw [hs] at hs'; cases hs'
   rw [ih hl']
theorem Gr.step_spec {G : Gr} {c : List Bool} {ds : List Int} {e n : Int} (h : G.stepP c ds e = some n) : G.turn e n = true ∧ shutB c n = false ∧ 0 ≤ dsv ds n ∧ dsv ds n + G.wt n = dsv ds e := by
 have h1 := List.find?_some h
 have h2 := List.mem_of_find?_eq_some h
 unfold Gr.okStep at h1
 simp [Bool.and_eq_true] at h1
 exact ⟨G.mem_next.1 h2, h1.1, h1.2.1, h1.2.2⟩
theorem OkG.dsv_gw {G : Gr} (_ : OkG G) {c : List Bool} {v : Int} {ds : List Int} (hd : G.far c v ds) {e : Int} (he : G.isE e) (h : 0 ≤ dsv ds e) : G.gw c v e (dsv ds e) := by
 rcases far_least hd he with ⟨h1, _⟩ | ⟨_, h1, _⟩
 ·omega
 ·exact h1
section
variable {G : Gr} (hG : OkG G) {c : List Bool} {v : Int} {ds : List Int} (hd : G.far c v ds)
include hG hd
theorem OkG.dsv_le {e d : Int} (h : G.gw c v e d) : 0 ≤ dsv ds e ∧ dsv ds e ≤ d := by
 rcases far_least hd (hG.gw_rng h).1 with ⟨_, h1⟩ | ⟨h0, _, h1⟩
 ·exact absurd h (h1 d)
 ·exact ⟨h0, h1 d h⟩
theorem OkG.step_ex {e : Int} (he : G.isE e) (h : 0 < dsv ds e) : ∃ n, G.stepP c ds e = some n := by
 rcases G.gw_inv (hG.dsv_gw hd he (by omega)) with ⟨h0, _⟩ | ⟨b, d', h1, h2, h3, h4⟩
 ·omega
 ·obtain ⟨g0, g1⟩ := hG.dsv_le hd h1
  have g2 := hG.dsv_gw hd (hG.gw_rng h1).1 g0
  have g3 := (hG.dsv_le hd (G.gw_step g2 h2 h3)).2
  cases hf : G.stepP c ds e with
  | some n => exact ⟨n, rfl⟩
  | none =>
   unfold Gr.stepP at hf
   have := List.find?_eq_none.1 hf b (G.mem_next.2 h2)
   unfold Gr.okStep at this
   simp [h3, g0] at this
   omega
theorem OkG.lway_ex : ∀ (k : Nat) {e : Int}, G.isE e → 0 ≤ dsv ds e → dsv ds e ≤ k → ∃ l, G.LWay c ds e l
 | k, e, he, h0, hk => by
  rcases Int.lt_or_le 0 (dsv ds e) with hp | hp
  ·obtain ⟨n, hn⟩ := hG.step_ex hd he hp
   obtain ⟨s1, _, s3, s4⟩ := G.step_spec hn
   have hw := hG.w1 (G.turn_iff.1 s1).2.1
   obtain ⟨k', rfl⟩ : ∃ k', k = k' + 1 := ⟨k - 1, by omega⟩
   obtain ⟨l, hl⟩ := OkG.lway_ex k' (G.turn_iff.1 s1).2.1 s3 (by omega)
   exact ⟨n :: l, .cons hp hn hl⟩
  ·exact ⟨[], .nil (by omega)⟩
end
def Gr.wsum (G : Gr) (l : List Int) : Int := (l.map G.wt).sum
theorem Gr.wsum_cons (G : Gr) (x : Int) (l : List Int) : G.wsum (x :: l) = G.wt x + G.wsum l := by simp [Gr.wsum]
def Gr.walkB (G : Gr) : Int → List Int → Bool
 | _, [] => true
 | e, x :: l => G.turn e x && G.walkB x l
theorem Gr.LWay.facts {G : Gr} (hG : OkG G) {c : List Bool} {ds : List Int} {e : Int} {l : List Int} (h : G.LWay c ds e l) : G.wsum l = dsv ds e ∧ G.walkB e l = true ∧ (∀ x ∈ l, G.isE x ∧ shutB c x = false) ∧ (l.length : Int) ≤ dsv ds e ∧ dsv ds (l.getLast?.getD e) = 0 := by
 induction h with
 | nil h => exact ⟨by rw [h]; rfl, rfl, by simp, by rw [h]; simp, h⟩
 | @cons e n l h hs hl ih =>
  obtain ⟨s1, s2, s3, s4⟩ := G.step_spec hs
  obtain ⟨i1, i2, i3, i4, i5⟩ := ih
  have hn := (G.turn_iff.1 s1).2.1
  have hw := hG.w1 hn
  refine ⟨by rw [G.wsum_cons, i1]; omega, by simp [Gr.walkB, s1, i2], fun x hx => ?_, by simp only [List.length_cons]; omega, ?_⟩
  ·rcases List.mem_cons.1 hx with rfl | hx
   ·exact ⟨hn, s2⟩
   ·exact i3 x hx
  ·rw [List.getLast?_cons]; exact i5
theorem Gr.LWay.falls {G : Gr} (hG : OkG G) {c : List Bool} {ds : List Int} {e : Int} {l : List Int} (h : G.LWay c ds e l) : l.Pairwise (fun a b => dsv ds b < dsv ds a) ∧ ∀ x ∈ l, dsv ds x < dsv ds e := by
 induction h with
 | nil h => exact ⟨List.Pairwise.nil, by simp⟩
 | @cons e n l h hs hl ih =>
  obtain ⟨s1, s2, s3, s4⟩ := G.step_spec hs
  have hw := hG.w1 (G.turn_iff.1 s1).2.1
  refine ⟨List.pairwise_cons.2 ⟨ih.2, ih.1⟩, fun x hx => ?_⟩
  rcases List.mem_cons.1 hx with rfl | hx
  ·omega
  ·have := ih.2 x hx; omega
theorem Gr.LWay.len {G : Gr} (hG : OkG G) {c : List Bool} {ds : List Int} {e : Int} {l : List Int} (h : G.LWay c ds e l) : l.length ≤ G.m := by
 have h1 := (h.falls hG).1
 have h2 := (h.facts hG).2.2.1
 refine nodup_len (List.Pairwise.imp (fun {a b} (h : dsv ds b < dsv ds a) => fun e => ?_) h1) fun x hx => (h2 x hx).1
 rw [e] at h; omega
section
variable {G : Gr} (hG : OkG G) {c : List Bool} {v : Int}
include hG
theorem OkG.zero_src {ds : List Int} (hd : G.far c v ds) {e : Int} (he : G.isE e) (h : dsv ds e = 0) : G.src v e := by
 rcases G.gw_inv (hG.dsv_gw hd he (by omega)) with ⟨_, h1⟩ | ⟨b, d', h1, h2, _, h4⟩
 ·exact h1
 ·have := hG.w1 (G.turn_iff.1 h2).2.1
  have := (hG.gw_rng h1).2
  omega
theorem OkG.lway_gw {c' : List Bool} {ds : List Int} (hd : G.far c' v ds) {e : Int} (he : G.isE e) {l : List Int} (h : G.LWay c' ds e l) (hs : ∀ x ∈ l, shutB c x = false) : G.gw c v e (G.wsum l) := by
 induction h with
 | nil h => exact .nil (hG.zero_src hd he h)
 | @cons e n l _ hst _ ih =>
  obtain ⟨s1, _⟩ := G.step_spec hst
  have := G.gw_step (ih (G.turn_iff.1 s1).2.1 fun x hx => hs x (by simp [hx])) s1 (hs n (by simp))
  rw [G.wsum_cons, Int.add_comm]; exact this
omit hG in
theorem find_imp {p q : Int → Bool} {n : Int} : ∀ {l : List Int}, l.find? p = some n → q n = true → (∀ x ∈ l, q x = true → p x = true) → l.find? q = some n
 | [], h, _, _ => by cases h
 | x :: l, h, hq, hi => by
  rw [List.find?_cons] at h ⊢
  cases hp : p x with
  | true => rw [hp] at h; cases h; rw [hq]
  | false =>
   rw [hp] at h
   cases hqx : q x with
   | true => rw [hi x (by simp) hqx] at hp; cases hp
   | false => exact find_imp h hq fun y hy => hi y (by simp [hy])
theorem OkG.lway_same {d0 d1 : List Int} (h0 : G.far [] v d0) (h1 : G.far c v d1) {e : Int} (he : G.isE e) {l : List Int} (h : G.LWay [] d0 e l) (hs : ∀ x ∈ l, shutB c x = false) : G.LWay c d1 e l ∧ dsv d1 e = dsv d0 e := by
 induction h with
 | @nil e h =>
  obtain ⟨g0, g1⟩ := hG.dsv_le h1 (.nil (hG.zero_src h0 he h))
  have : dsv d1 e = 0 := by omega
  exact ⟨.nil this, by omega⟩
 | @cons e n l hp hst hl ih =>
  obtain ⟨s1, _, s3, s4⟩ := G.step_spec hst
  have hn := (G.turn_iff.1 s1).2.1
  obtain ⟨i1, i2⟩ := ih hn fun x hx => hs x (by simp [hx])
  have hsn := hs n (by simp)
  have hgn := hG.dsv_gw h1 hn (by omega)
  obtain ⟨g0, g1⟩ := hG.dsv_le h1 (G.gw_step hgn s1 hsn)
  have g2 := (hG.dsv_le h0 (G.gw_open (hG.dsv_gw h1 he g0))).2
  have heq : dsv d1 e = dsv d0 e := by omega
  refine ⟨.cons (by omega) (find_imp hst ?_ fun x hx hqx => ?_) i1, heq⟩
  ·unfold Gr.okStep; simp [hsn]; omega
  ·unfold Gr.okStep at hqx ⊢
   simp at hqx
   have htx := G.mem_next.1 hx
   have hgx := hG.dsv_gw h1 (G.turn_iff.1 htx).2.1 hqx.2.1
   obtain ⟨g3, g4⟩ := hG.dsv_le h0 (G.gw_open hgx)
   have g5 := (hG.dsv_le h0 (G.gw_step (hG.dsv_gw h0 (G.turn_iff.1 htx).2.1 g3) htx (shut_nil x))).2
   simp [shut_nil, g3]; omega
end
inductive Gr.AnsIs (G : Gr) (v e : Int) (c : List Bool) : List Int → Int → Bool → Bool → Prop where
 | no (h : ∀ d, G.isN v → ¬ G.gw c v e d) : AnsIs G v e c [] 0 false false
 | near {d0 : List Int} {l : List Int} (hv : G.isN v) (he : G.isE e) (h0 : G.far [] v d0) (h : G.LWay [] d0 e l) (hs : ∀ x ∈ l, shutB c x = false) : AnsIs G v e c l (G.wsum l) true false
 | far {d0 d1 : List Int} {l0 l : List Int} (hv : G.isN v) (he : G.isE e) (h0 : G.far [] v d0) (h1 : G.far c v d1) (hl : G.LWay [] d0 e l0) (hs : ∃ x ∈ l0, shutB c x = true) (h : G.LWay c d1 e l) : AnsIs G v e c l (G.wsum l) true true
theorem OkG.ans_uniq {G : Gr} (hG : OkG G) {v e : Int} {c : List Bool} {l l' : List Int} {w w' : Int} {f f' r r' : Bool} (h : G.AnsIs v e c l w f r) (h' : G.AnsIs v e c l' w' f' r') : l = l' ∧ w = w' ∧ f = f' ∧ r = r' := by
 have nn : ∀ {d0 l}, (∀ d, G.isN v → ¬ G.gw c v e d) → G.isN v → G.isE e → G.far [] v d0 → G.LWay [] d0 e l → (∀ x ∈ l, shutB c x = false) → False := fun hno hv he h0 hl hs => hno _ hv (hG.lway_gw h0 he hl hs)
 have nf : ∀ {d1 l}, (∀ d, G.isN v → ¬ G.gw c v e d) → G.isN v → G.isE e → G.far c v d1 → G.LWay c d1 e l → False := fun hno hv he h1 hl => hno _ hv (hG.lway_gw h1 he hl fun x hx => ((hl.facts hG).2.2.1 x hx).2)
 have ne : ∀ {d0 d0' l l0}, G.far [] v d0 → G.far [] v d0' → G.LWay [] d0 e l → G.LWay [] d0' e l0 → l = l0 := fun h0 h0' h h' => by
  rw [h0.one h0'] at h; exact h.uniq h'
 cases h with
 | no hno => cases h' with
  | no => exact ⟨rfl, rfl, rfl, rfl⟩
  | near hv he h0 hl hs => exact (nn hno hv he h0 hl hs).elim
  | far hv he _ h1 _ _ hl => exact (nf hno hv he h1 hl).elim
 | near hv he h0 hl hs => cases h' with
  | no hno => exact (nn hno hv he h0 hl hs).elim
  | near _ _ h0' hl' _ => rw [ne h0 h0' hl hl']; exact ⟨rfl, rfl, rfl, rfl⟩
  | far _ _ h0' _ hl' hs' _ =>
   obtain ⟨x, hx, hsx⟩ := hs'
   rw [← ne h0 h0' hl hl'] at hx
   rw [hs x hx] at hsx; cases hsx
 | far hv he h0 h1 hl0 hs hl => cases h' with
  | no hno => exact (nf hno hv he h1 hl).elim
  | near _ _ h0' hl' hs' =>
   obtain ⟨x, hx, hsx⟩ := hs
   rw [ne h0 h0' hl0 hl'] at hx
   rw [hs' x hx] at hsx; cases hsx
  | far _ _ _ h1' _ _ hl' =>
   rw [h1.one h1'] at hl
   rw [hl.uniq hl']; exact ⟨rfl, rfl, rfl, rfl⟩
theorem UpW.front {A : List Arc} {rs : List Int} {a b d : Int} (h : UpW A rs a b d) : (b = a ∧ d = 0) ∨ ∃ e ∈ A, e.f = a ∧ rankOf rs e.f < rankOf rs e.t ∧ ∃ d', UpW A rs e.t b d' ∧ d = e.w + d' := by
 induction h with
 | nil => exact .inl ⟨rfl, rfl⟩
 | @snoc v d e _ he hf hr ih =>
  rcases ih with ⟨h1, h2⟩ | ⟨e1, g1, g2, g3, d', g4, g5⟩
  ·exact .inr ⟨e, he, by rw [hf, h1], hr, 0, .nil, by omega⟩
  ·exact .inr ⟨e1, g1, g2, g3, d' + e.w, .snoc e g4 he hf hr, by omega⟩
def UPD (A : List Arc) (R : List Int) (Dn : Int → Int → Prop) (v d : Int) : Prop := ∃ k d1 d2, UpW A R v k d1 ∧ Dn k d2 ∧ d = d1 + d2
theorem upd_iff {A : List Arc} {R : List Int} {Dn : Int → Int → Prop} {v d : Int} : UPD A R Dn v d ↔ Dn v d ∨ ∃ e ∈ upL A R v, ∃ d', UPD A R Dn e.t d' ∧ d = e.w + d' := by
 constructor
 ·rintro ⟨k, d1, d2, h1, h2, h3⟩
  rcases h1.front with ⟨g1, g2⟩ | ⟨e, g1, g2, g3, d', g4, g5⟩
  ·rw [g1] at h2; exact .inl (by rw [h3, g2, Int.zero_add]; exact h2)
  ·refine .inr ⟨e, ?_, d' + d2, ⟨k, d', d2, g4, h2, rfl⟩, by omega⟩
   unfold upL
   rw [List.mem_filter, mem_outL]
   exact ⟨⟨g1, g2⟩, by rw [← g2]; simpa using g3⟩
 ·rintro (h | ⟨e, he, d', ⟨k, d1, d2, h1, h2, h3⟩, h4⟩)
  ·exact ⟨v, 0, d, .nil, h, by omega⟩
  ·unfold upL at he
   rw [List.mem_filter, mem_outL] at he
   obtain ⟨⟨g1, g2⟩, g3⟩ := he
   have g3' : rankOf R v < rankOf R e.t := by simpa using g3
   have := UpW.cons e g1 (by rw [g2]; exact g3') rfl h1
   rw [g2] at this
   exact ⟨k, e.w + d1, d2, this, h2, by omega⟩
theorem LeastIs.plus {P : Int → Prop} {y w : Int} (h : LeastIs P y) (hw : 0 ≤ w) : LeastIs (fun d => ∃ d', P d' ∧ d = w + d') (if y < 0 then -1 else y + w) := by
 rcases h with ⟨e, hn⟩ | ⟨h0, hx, hm⟩
 ·rw [if_pos (by omega)]; exact .inl ⟨rfl, fun k ⟨d', hd, _⟩ => hn d' hd⟩
 ·rw [if_neg (by omega)]
  exact .inr ⟨by omega, ⟨y, hx, by omega⟩, fun k ⟨d', hd, e⟩ => by have := hm d' hd; omega⟩
theorem LeastIs.lower {P P' : Int → Prop} {x y w : Int} (h : LeastIs P x) (h' : LeastIs P' y) (hw : 0 ≤ w) : LeastIs (fun d => P d ∨ ∃ d', P' d' ∧ d = w + d') (if 0 ≤ y ∧ (x < 0 ∨ y + w < x) then y + w else x) := by
 have := h.or (h'.plus hw)
 have e : (if 0 ≤ (if y < 0 then -1 else y + w) ∧ (x < 0 ∨ (if y < 0 then -1 else y + w) < x) then (if y < 0 then -1 else y + w) else x) = (if 0 ≤ y ∧ (x < 0 ∨ y + w < x) then y + w else x) := by
  by_cases h1 : y < 0
  ·rw [if_pos h1, if_neg (by omega), if_neg (by omega)]
  ·rw [if_neg h1]
   by_cases h2 : x < 0 ∨ y + w < x
   ·rw [if_pos ⟨by omega, h2⟩, if_pos ⟨by omega, h2⟩]
   ·rw [if_neg (fun h => h2 h.2), if_neg (fun h => h2 h.2)]
 rwa [e] at this
theorem rank_onto {n : Nat} {L : List Arc} (hL : OkL n L) (hw : ∀ e ∈ L, e.w ≤ 40) (hn : n ≤ 51) {r : Nat} (hr : r < n) : ∃ v : Nat, v < n ∧ rankOf (bldN n L n).rank (v : Int) = (r : Int) := by
 have rng : ∀ v : Nat, v < n → 0 ≤ rankOf (bldN n L n).rank (v : Int) ∧ rankOf (bldN n L n).rank (v : Int) < n := fun v hv => rank_rng hL hw hn (by omega) (by omega)
 have inj : ∀ v w : Nat, v < n → w < n → rankOf (bldN n L n).rank (v : Int) = rankOf (bldN n L n).rank (w : Int) → v = w := fun v w hv hw' e => by
  rcases Nat.lt_trichotomy v w with h | h | h
  ·exact absurd e (rank_ne hL hw hn (by omega) (by omega) (by omega) (by omega) (by omega))
  ·exact h
  ·exact absurd e (rank_ne hL hw hn (by omega) (by omega) (by omega) (by omega) (by omega))
 generalize rankOf (bldN n L n).rank = f at *
 have nd : (((List.range n).map fun v : Nat => f (v : Int))).Nodup := by
  rw [List.Nodup, List.pairwise_map]
  refine List.Pairwise.imp_of_mem (fun {a b} ha hb (h : a < b) e => ?_) List.pairwise_lt_range
  have := inj a b (List.mem_range.1 ha) (List.mem_range.1 hb) e
  omega
 rcases Classical.em (∃ v : Nat, v < n ∧ f (v : Int) = (r : Int)) with h | h
 ·exact h
 ·exfalso
  have key := nodup_len (m := n) (l := (r : Int) :: (List.range n).map fun v : Nat => f (v : Int)) ?_ ?_
  ·simp at key
   omega
  ·rw [List.nodup_cons]
   refine ⟨fun hm => ?_, nd⟩
   obtain ⟨v, hv, e⟩ := List.mem_map.1 hm
   exact h ⟨v, List.mem_range.1 hv, e⟩
  ·intro x hx
   rcases List.mem_cons.1 hx with rfl | hx
   ·omega
   ·obtain ⟨v, hv, rfl⟩ := List.mem_map.1 hx
    exact rng v (List.mem_range.1 hv)
theorem OkG.levels_far {G : Gr} (hG : OkG G) {v : Int} {ds : List Int}
  (h : FarIs G.m (UPD (bldN G.m G.net G.m).all (bldN G.m G.net G.m).rank (GW (inSrc G.m (G.inN v)) (downL (bldN G.m G.net G.m).all (bldN G.m G.net G.m).rank) (fun e => e.f))) ds) : G.far [] v ds := by
 have hL := hG.net_ok
 have hw : ∀ e ∈ G.net, e.w ≤ 40 := fun e he => (hG.net_may e he).2.1
 have hn := hG.m1.2
 have insrc : ∀ t, inSrc G.m (G.inN v) t ↔ G.src v t := fun t => by
  unfold inSrc; rw [G.mem_inN]; exact ⟨fun h => h.1, fun h => ⟨h, h.1.1, h.1.2⟩⟩
 refine ⟨h.1, fun a d hd => ?_⟩
 have ha : a < G.m := by have := (List.getElem?_eq_some_iff.1 hd).1; rw [h.1] at this; exact this
 refine least_equiv (h.2 a d hd) (fun d ⟨k, d1, d2, h1, h2, h3⟩ => ?_) (fun d hg => ?_)
 ·obtain ⟨t, ht, h4⟩ := down_gw.1 h2
  have hwk := (ud_iff hL hw hn (a := (a : Int)) (b := t) (by omega) (by omega) ht.2.1 ht.2.2).2 k d1 d2 h1 h4
  have := OkG.walk_gw hwk 0 (.nil ((insrc t).1 ht))
  rw [Int.zero_add] at this
  exact ⟨d, Int.le_refl _, by rw [h3]; exact this⟩
 ·obtain ⟨d', t, hle, ht, hwk⟩ := hG.gw_walk hg
  obtain ⟨m, d1, d2, h1, h2, h3⟩ := (ud_iff hL hw hn (a := (a : Int)) (b := t) (by omega) (by omega) ht.1.1 ht.1.2).1 d' hwk
  exact ⟨d1 + d2, by omega, m, d1, d2, h1, down_gw.2 ⟨t, (insrc t).2 ht, h2⟩, rfl⟩
structure LFar (m : Nat) (A : List Arc) (R : List Int) (Dn : Int → Int → Prop) (i : Nat) (ds : List Int) : Prop where
 len : ds.length = m
 up : ∀ (v : Nat) (x : Int), ds[v]? = some x → (m : Int) - i ≤ rankOf R (v : Int) → LeastIs (UPD A R Dn (v : Int)) x
 dn : ∀ (v : Nat) (x : Int), ds[v]? = some x → rankOf R (v : Int) < (m : Int) - i → LeastIs (Dn (v : Int)) x
 bnd : ∀ (v : Nat) (x : Int), ds[v]? = some x → -1 ≤ x ∧ x ≤ (m + i) * BW
theorem LFar.start {m : Nat} {A : List Arc} {R ds : List Int} {Dn : Int → Int → Prop} (h : FarIs m Dn ds) (hr : ∀ v : Int, 0 ≤ v → v < m → rankOf R v < m) (hb : ∀ (v : Nat) (x : Int), ds[v]? = some x → -1 ≤ x ∧ x ≤ m * BW) : LFar m A R Dn 0 ds := by
 refine ⟨h.1, fun v x hx hk => ?_, fun v x hx _ => h.2 v x hx, fun v x hx => by have := hb v x hx; simpa using this⟩
 have hv := (List.getElem?_eq_some_iff.1 hx).1
 rw [h.1] at hv
 have := hr (v : Int) (by omega) (by omega)
 omega
theorem LFar.step {m i : Nat} {A : List Arc} {R ds : List Int} {Dn : Int → Int → Prop} (h : LFar m A R Dn i ds) (hne : ∀ v w : Nat, v < m → w < m → v ≠ w → rankOf R (v : Int) ≠ rankOf R (w : Int)) {v : Nat} (hv : v < m) (hr : rankOf R (v : Int) = (m : Int) - 1 - i) {x : Int}
  (hx : LeastIs (UPD A R Dn (v : Int)) x) (hb : -1 ≤ x ∧ x ≤ (m + (i + 1 : Nat)) * BW) : LFar m A R Dn (i + 1) (ds.set v x) := by
 have get : ∀ {u : Nat} {y : Int}, (ds.set v x)[u]? = some y → (u = v ∧ y = x) ∨ (u ≠ v ∧ u < m ∧ ds[u]? = some y) := fun {u y} hu => by
  rw [List.getElem?_set] at hu
  by_cases e : v = u
  ·rw [if_pos e, if_pos (by rw [h.len]; omega)] at hu; cases hu; exact .inl ⟨e.symm, rfl⟩
  ·rw [if_neg e] at hu
   exact .inr ⟨fun e' => e e'.symm, by have := (List.getElem?_eq_some_iff.1 hu).1; rw [h.len] at this; exact this, hu⟩
 refine ⟨by rw [List.length_set]; exact h.len, fun u y hu hk => ?_, fun u y hu hk => ?_, fun u y hu => ?_⟩
 ·rcases get hu with ⟨rfl, rfl⟩ | ⟨hne', hum, hu⟩
  ·exact hx
  ·have := hne u v hum hv hne'
   exact h.up u y hu (by omega)
 ·rcases get hu with ⟨rfl, rfl⟩ | ⟨_, _, hu⟩
  ·omega
  ·exact h.dn u y hu (by omega)
 ·rcases get hu with ⟨rfl, rfl⟩ | ⟨_, _, hu⟩
  ·exact hb
  ·have := h.bnd u y hu
   simp only [BW] at *; omega
theorem LFar.done {m : Nat} {A : List Arc} {R ds : List Int} {Dn : Int → Int → Prop} (h : LFar m A R Dn m ds) (hr : ∀ v : Int, 0 ≤ v → v < m → 0 ≤ rankOf R v) : FarIs m (UPD A R Dn) ds :=
 ⟨h.len, fun v x hx => h.up v x hx (by
  have hv := (List.getElem?_eq_some_iff.1 hx).1
  rw [h.len] at hv
  have := hr (v : Int) (by omega) (by omega)
  omega)⟩
end Go.Den

namespace Go.Den
open Go
def flK (key : Int → Int) (k : Nat) (v : Nat) : List Int := (ints k).filter fun e => decide (key e = (v : Int))
def cK (key : Int → Int) (k : Nat) (v : Nat) : Nat := (flK key k v).length
theorem flK_succ (key : Int → Int) (k v : Nat) : flK key (k + 1) v = flK key k v ++ if key (k : Int) = (v : Int) then [(k : Int)] else [] := by
 unfold flK
 rw [ints_succ, List.filter_append]
 congr 1
 by_cases h : key (k : Int) = (v : Int) <;> simp [h]
theorem cK_succ (key : Int → Int) (k v : Nat) : cK key (k + 1) v = cK key k v + if key (k : Int) = (v : Int) then 1 else 0 := by
 unfold cK
 rw [flK_succ, List.length_append]
 split <;> rfl
theorem cK_zero (key : Int → Int) (v : Nat) : cK key 0 v = 0 := rfl
theorem cK_le (key : Int → Int) {k m : Nat} (h : k ≤ m) (v : Nat) : cK key k v ≤ cK key m v := by
 induction h with
 | refl => exact Nat.le_refl _
 | step _ ih => rw [cK_succ]; omega
theorem cK_bnd (key : Int → Int) (k v : Nat) : cK key k v ≤ k := by
 have := List.length_filter_le (fun e => decide (key e = (v : Int))) (ints k)
 rw [ints_len] at this; exact this
def preK (c : Nat → Nat) : Nat → Nat
 | 0 => 0
 | v + 1 => preK c v + c v
theorem preK_lt (c : Nat → Nat) {v u : Nat} (h : v < u) : preK c v + c v ≤ preK c u := by
 induction h with
 | refl => exact Nat.le_refl _
 | step _ ih => show _ ≤ preK c _ + c _; omega
theorem preK_add (c : Nat → Nat) (a : Int) (n : Nat) : preK (fun v => c v + if a = (v : Int) then 1 else 0) n = preK c n + if 0 ≤ a ∧ a < n then 1 else 0 := by
 induction n with
 | zero =>
  have : ¬ (0 ≤ a ∧ a < ((0 : Nat) : Int)) := by omega
  rw [if_neg this]; rfl
 | succ n ih =>
  show preK _ n + (c n + _) = preK c n + c n + _
  rw [ih]
  by_cases h1 : a = (n : Int)
  ·rw [if_neg (by omega), if_pos h1, if_pos (by omega)]; omega
  ·by_cases h2 : 0 ≤ a ∧ a < n
   ·rw [if_pos h2, if_neg h1, if_pos (by omega)]; omega
   ·rw [if_neg h2, if_neg h1, if_neg (by omega)]; omega
theorem preK_all {key : Int → Int} {n : Nat} : ∀ {m : Nat}, (∀ i : Nat, i < m → 0 ≤ key (i : Int) ∧ key (i : Int) < n) → preK (cK key m) n = m
 | 0, _ => by
  have : ∀ n, preK (cK key 0) n = 0 := fun n => by
   induction n with
   | zero => rfl
   | succ n ih => show preK _ n + cK key 0 n = 0; rw [ih]; rfl
  exact this n
 | m + 1, h => by
  have e : cK key (m + 1) = fun v => cK key m v + if key (m : Int) = (v : Int) then 1 else 0 := by funext v; exact cK_succ key m v
  rw [e, preK_add, preK_all (m := m) fun i hi => h i (by omega), if_pos (h m (by omega))]
structure Rows1 (key : Int → Int) (n k : Nat) (fs : List Int) : Prop where
 len : fs.length = n + 1
 zero : fs[0]? = some 0
 val : ∀ v, v < n → fs[v + 1]? = some (cK key k v : Int)
theorem Rows1.start (key : Int → Int) (n : Nat) : Rows1 key n 0 (List.replicate (n + 1) 0) :=
 ⟨by simp, by simp, fun v hv => by rw [List.getElem?_replicate, if_pos (by omega)]; rfl⟩
theorem Rows1.step {key : Int → Int} {n k : Nat} {fs : List Int} (h : Rows1 key n k fs) {v0 : Nat} (hv : v0 < n) (hk : key (k : Int) = (v0 : Int)) : Rows1 key n (k + 1) (fs.set (v0 + 1) ((cK key k v0 : Int) + 1)) := by
 refine ⟨by rw [List.length_set]; exact h.len, by rw [List.getElem?_set, if_neg (by omega)]; exact h.zero, fun v hv' => ?_⟩
 rw [List.getElem?_set, cK_succ]
 by_cases e : v0 = v
 ·subst e
  rw [if_pos rfl, if_pos (by rw [h.len]; omega), if_pos hk]; simp
 ·rw [if_neg (by omega), if_neg (by omega), h.val v hv']; simp
structure Rows2 (c : Nat → Nat) (n j : Nat) (fs : List Int) : Prop where
 len : fs.length = n + 1
 lo : ∀ i, i ≤ j → fs[i]? = some (preK c i : Int)
 hi : ∀ v, v < n → j ≤ v → fs[v + 1]? = some (c v : Int)
theorem Rows1.rows2 {key : Int → Int} {n m : Nat} {fs : List Int} (h : Rows1 key n m fs) : Rows2 (cK key m) n 0 fs :=
  ⟨h.len, fun i hi => by have : i = 0 := by omega
                         subst this; exact h.zero, fun v hv _ => h.val v hv⟩
theorem Rows2.step {c : Nat → Nat} {n j : Nat} {fs : List Int} (h : Rows2 c n j fs) (hj : j < n) : Rows2 c n (j + 1) (fs.set (j + 1) ((c j : Int) + (preK c j : Int))) := by
 refine ⟨by rw [List.length_set]; exact h.len, fun i hi => ?_, fun v hv hjv => ?_⟩
 ·rw [List.getElem?_set]
  by_cases e : j + 1 = i
  ·subst e
   rw [if_pos rfl, if_pos (by rw [h.len]; omega)]
   show some _ = some ((preK c j + c j : Nat) : Int)
   congr 1; omega
  ·rw [if_neg e]; exact h.lo i (by omega)
 ·rw [List.getElem?_set, if_neg (by omega)]; exact h.hi v hv (by omega)
structure Rows3 (key : Int → Int) (n m k : Nat) (nx row : List Int) : Prop where
 nl : nx.length = n + 1
 nv : ∀ v, v < n → nx[v]? = some ((preK (cK key m) v + cK key k v : Nat) : Int)
 rl : row.length = m
 rv : ∀ v, v < n → ∀ j x, (flK key k v)[j]? = some x → row[preK (cK key m) v + j]? = some x
theorem Rows2.rows3 {key : Int → Int} {n m : Nat} {fs : List Int} (h : Rows2 (cK key m) n n fs) : Rows3 key n m 0 fs (List.replicate m 0) :=
 ⟨h.len, fun v hv => by rw [h.lo v (by omega), cK_zero]; rfl, by simp, fun v _ j x hj => by simp [flK, ints] at hj⟩
theorem Rows3.step {key : Int → Int} {n m k : Nat} {nx row : List Int} (h : Rows3 key n m k nx row) (hkm : k < m) (hkey : ∀ i : Nat, i < m → 0 ≤ key (i : Int) ∧ key (i : Int) < n) {v0 : Nat} (hv : v0 < n) (hk : key (k : Int) = (v0 : Int)) :
  preK (cK key m) v0 + cK key k v0 < m ∧ Rows3 key n m (k + 1) (nx.set v0 (((preK (cK key m) v0 + cK key k v0 : Nat) : Int) + 1)) (row.set (preK (cK key m) v0 + cK key k v0) (k : Int)) := by
 have hall := preK_all hkey
 have hc : cK key k v0 + 1 ≤ cK key m v0 := by
  have := cK_le key (show k + 1 ≤ m by omega) v0
  rw [cK_succ, if_pos hk] at this; exact this
 have hp : preK (cK key m) v0 + cK key k v0 < m := by
  have := preK_lt (cK key m) hv
  omega
 refine ⟨hp, by rw [List.length_set]; exact h.nl, fun v hv' => ?_, by rw [List.length_set]; exact h.rl, fun v hv' j x hj => ?_⟩
 ·rw [List.getElem?_set, cK_succ]
  by_cases e : v0 = v
  ·subst e
   rw [if_pos rfl, if_pos (by rw [h.nl]; omega), if_pos hk]
   congr 1
  ·rw [if_neg e, if_neg (by omega), h.nv v hv']; rfl
 ·rw [flK_succ] at hj
  rw [List.getElem?_set]
  have hjl := (List.getElem?_eq_some_iff.1 hj).1
  rw [List.length_append] at hjl
  by_cases hlt : j < (flK key k v).length
  ·rw [List.getElem?_append_left hlt] at hj
   have hne : preK (cK key m) v0 + cK key k v0 ≠ preK (cK key m) v + j := fun e => by
    have h1 := cK_le key (show k ≤ m by omega) v
    have hlt' : j < cK key k v := hlt
    rcases Nat.lt_trichotomy v v0 with h2 | h2 | h2
    ·have := preK_lt (cK key m) h2; omega
    ·subst h2; omega
    ·have := preK_lt (cK key m) h2; omega
   rw [if_neg hne]
   exact h.rv v hv' j x hj
  ·by_cases e : key (k : Int) = (v : Int)
   ·rw [if_pos e] at hjl hj
    have hj' : j = (flK key k v).length := by simp at hjl; omega
    subst hj'
    rw [List.getElem?_append_right (Nat.le_refl _)] at hj
    simp at hj
    subst hj
    have : v0 = v := by omega
    subst this
    rw [show (flK key k v0).length = cK key k v0 from rfl, if_pos rfl, if_pos (by rw [h.rl]; exact hp)]
   ·rw [if_neg e] at hjl
    simp at hjl; omega
theorem Rows3.done {key : Int → Int} {n m : Nat} {nx row : List Int} (h : Rows3 key n m m nx row) (hkey : ∀ i : Nat, i < m → 0 ≤ key (i : Int) ∧ key (i : Int) < n) {v : Nat} (hv : v < n) :
  preK (cK key m) v + cK key m v ≤ m ∧ (row.drop (preK (cK key m) v)).take (cK key m v) = flK key m v := by
 have hall := preK_all hkey
 have := preK_lt (cK key m) hv
 refine ⟨by omega, List.ext_getElem? fun j => ?_⟩
 rw [List.getElem?_take]
 by_cases hj : j < cK key m v
 ·rw [if_pos hj, List.getElem?_drop]
  have hj' : j < (flK key m v).length := hj
  rw [List.getElem?_eq_getElem hj']
  exact h.rv v hv j _ (List.getElem?_eq_getElem hj')
 ·rw [if_neg hj, List.getElem?_eq_none]
  show cK key m v ≤ j; omega
end Go.Den
