import Derived.Test.YtjjgcimlmjnaeaaGreatQ3
import Derived.Test.YtjjgcimlmjnaeaaGreatQ1
import Derived.Test.YtjjgcimlmjnaeaaGreatA4
import Derived.Test.YtjjgcimlmjnaeaaGreatA5
import Derived.Test.YtjjgcimlmjnaeaaGreatQ4
import Derived.Test.YtjjgcimlmjnaeaaGreatFL28
import Derived.Test.YtjjgcimlmjnaeaaGreatQ8
namespace Go.Proofs.YtjjgcimlmjnaeaaGreat
open Go Go.Den
theorem Ints_i {a b : Sl} {xs ys : List Int} {w : World} {Q : Bool → World → Prop} (ha : Rd w a 1 eI xs) (hb : Rd w b 1 eI ys) (hl : xs.length < 1000000) (hQ : ∀ (r : Bool) w', Keep w w' → (r = true ↔ xs = ys) → Q r w') : F_alike_Ints a b w Q := by
 unfold F_alike_Ints
 have la := ha.len
 have lb := hb.len
 refine cond_i (fun h => ?_) (fun h => ?_)
 ·refine hQ false w (Mod.refl _ _) ⟨fun h => (by cases h), fun e => ?_⟩
  rw [la, lb, e] at h; simp at h
 ·have hab : xs.length = ys.length := by simp at h; omega
  refine loop_i (fun c t w1 => ∃ (i : Nat), i ≤ xs.length ∧ c = xs.length - i ∧ t = ((i : Int), ()) ∧ Keep w w1 ∧ ∀ j, j < i → xs[j]? = ys[j]?) xs.length ⟨0, Nat.zero_le _, rfl, rfl, Mod.refl _ _, fun j hj => by omega⟩ ?_
  rintro c t w1 ⟨i, hi, rfl, rfl, k1, he⟩ X hX
  dsimp only
  refine cond_d (fun hlt => ?_) (fun hge => ?_)
  ·have hx := List.getElem?_eq_getElem (show i < xs.length by omega)
   have hy := List.getElem?_eq_getElem (show i < ys.length by omega)
   have d1 : Keep w1 w1.drew := Mod.drew (Mod.refl _ w1)
   have K1 := k1.tr d1
   obtain ⟨p, hp, hc⟩ := rd_cell (k := .int .i64) (e := fun x => x) (ha.mod K1 eI_ne fun _ _ => id) hx
   obtain ⟨p', hp', hc'⟩ := rd_cell (k := .int .i64) (e := fun x => x) (hb.mod K1 eI_ne fun _ _ => id) hy
   rw [Int.toNat_natCast]
   refine ⟨⟨by omega, hlt⟩, onSome_i hp (ld1_i (k := .int .i64) xs[i] hc ⟨⟨by omega, by omega⟩, onSome_i hp' (ld1_i (k := .int .i64) ys[i] hc' ?_)⟩)⟩
   refine cond_i (fun hne => ?_) (fun heq => ?_)
   ·refine hQ false _ K1 ⟨fun h => (by cases h), fun e => ?_⟩
    subst e
    exact absurd hne (by show ¬ ((xs[i] != xs[i]) = true); simp)
   ·have heq' : xs[i] = ys[i] := by
     have : (xs[i] != ys[i]) = false := heq
     simpa using this
    rw [w64 (by omega) (by omega)]
    refine hX (xs.length - (i + 1)) _ _ (by omega) ⟨i + 1, by omega, rfl, rfl, K1, fun j hj => ?_⟩
    rcases Nat.lt_or_ge j i with h | h
    ·exact he j h
    ·have : j = i := by omega
     subst this
     rw [hx, hy, heq']
  ·refine hQ true w1 k1 ⟨fun _ => ?_, fun _ => rfl⟩
   apply List.ext_getElem?
   intro j
   by_cases hj : j < xs.length
   ·exact he j (by omega)
   ·rw [List.getElem?_eq_none (by omega), List.getElem?_eq_none (by omega)]
end Go.Proofs.YtjjgcimlmjnaeaaGreat

namespace Go.Proofs.YtjjgcimlmjnaeaaGreat
open Go Go.Den Go.ChangeShapes Go.WideShapes Go.ChangeAt Go.RowKit
theorem own : ownKnob Tryz.prog.godebug = none := by kernel_rfl
theorem laid : laidOutB Tryz.prog = true := by kernel_rfl
theorem call_of {g : FuncId} {T : Tr} (hS : Sound Tryz.prog g T) {args : List Value} {W : World} (h : T args W fun v w' => v = .bool true ∧ Since W w') : Calls Tryz.prog g args.toArray W fun e w' => e = .returned (.bool true) ∧ Since W w' :=
 (hS args W _ h).mono fun e w' ⟨v, he, hv, hs⟩ => ⟨by rw [he, hv], hs⟩
end Go.Proofs.YtjjgcimlmjnaeaaGreat

namespace Go.Proofs.YtjjgcimlmjnaeaaGreat
open Go Go.Den Go.ChangeShapes Go.WideShapes Go.ChangeAt Go.RowKit
def i1Of : List Int → Int
 | [x] => x
 | _ => 0
theorem i1Of_enc {r : List Int} (h : r.length = 1) : eI (i1Of r) = r.map (Value.int .i64) := by
 match r, h with
 | [x], _ => rfl
set_option maxRecDepth 100000 in
theorem arg_is {H : Type} {enc : TypeId × Value → H} {W : World} {t b : Nat} {v : Value} {d : DataW H} {ps : List MemPlace} (ht : Tryz.prog.underlying t = some (.slice tInt)) (hval : Value.okWide Tryz.prog W .any b t v) (h : DataW.Trod enc Tryz.prog W 0 (fun _ => true) true t v d ps) :
  ∃ (s : Sl) (xs : List Int), v = .slice s.b s.l s.c ∧ Rd W s 1 eI xs := by
 obtain ⟨s, rows, rfl, hr, hl⟩ := arg_rows (m := 1) ht (by kernel_rfl) (by kernel_rfl) hval h
 exact ⟨s, rows.map i1Of, rfl, hr.map i1Of fun r hr => i1Of_enc (hl r hr)⟩
end Go.Proofs.YtjjgcimlmjnaeaaGreat

namespace Go.Proofs.YtjjgcimlmjnaeaaGreat
open Go Go.Den Go.ChangeShapes Go.WideShapes Go.ChangeAt Go.RowKit
end Go.Proofs.YtjjgcimlmjnaeaaGreat

namespace Go.Proofs.YtjjgcimlmjnaeaaGreat
open Go Go.Den Go.ChangeShapes Go.WideShapes Go.ChangeAt Go.RowKit
def ActsRd (W : World) (s : Sl) (xs : List ActP) : Prop := Rd W s 3 eAct xs ∧ ∀ a ∈ xs, Rd W a.s 1 eI a.l
set_option maxRecDepth 100000 in
theorem arg_act {H : Type} {enc : TypeId × Value → H} {W : World} {t b : Nat} {v : Value} {d : DataW H} {ps : List MemPlace} (ht : Tryz.prog.underlying t = some (.slice tAct)) (hval : Value.okWide Tryz.prog W .any b t v) (h : DataW.Trod enc Tryz.prog W 0 (fun _ => true) true t v d ps) :
  ∃ (s : Sl) (xs : List ActP), v = .slice s.b s.l s.c ∧ ActsRd W s xs := by
 obtain ⟨f0, f1, f2, he, h0, h1, h2⟩ := actT_iff (P := Tryz.prog) (e := tAct) (ti := tInt) (ts := tsInt) (by kernel_rfl)
 obtain ⟨s, xs, h3, h4, h5⟩ := arg_acts ht he (by kernel_rfl) h0 h1 h2 (by kernel_rfl) (by kernel_rfl) (by kernel_rfl) (by kernel_rfl) hval h
 exact ⟨s, xs, h3, h4, h5⟩
end Go.Proofs.YtjjgcimlmjnaeaaGreat

namespace Go.Proofs.YtjjgcimlmjnaeaaGreat
open Go Go.Den
theorem made28_i {l : Sl} {xs : List Int} {W : World} {Q : GT → Option Addr → World → Prop} (hl : Rd W l 1 eI xs)
  (hQ : ∀ g G E w', EngIs w' E G → GvIs w' g G → OkG G → G.n ≤ 16 → Keep W w' → Q g (some ⟨E.e, 0, none⟩) w') : F_law28_made l W Q := by
 unfold F_law28_made
 refine alloc_i fun w1 o1 k1 z1 => ?_
 have o1' : Own w1 W.heap.size tAGraph [sv ⟨none, 0, 0⟩, sv ⟨none, 0, 0⟩, sv ⟨none, 0, 0⟩] := o1
 refine Town_i (hl.mod k1 eI_ne fun _ _ => id) fun g G w4 hg ok hn k4 => ?_
 refine agg_new (vs := gcs g) size_AGraph rfl (gone1 g) fun w6 o6 k6 z6 => ?_
 refine ldN_i (l := [.slice, .slice, .slice]) g (own_g (g := g) o6) ?_
 refine ENew_i (g := g) (hg.keep k6) ok fun E w7 hE k7 => ?_
 refine cond_i (fun h => by simp at h) (fun _ => ?_)
 refine ldN_i (l := [.slice, .slice, .slice]) g (own_g (g := g) (o6.mod k7 id)) ?_
 have K7 := (k4.tr k6).tr k7
 refine agg_store (vs := gcs g) (o1'.mod K7 id) size_AGraph rfl (gone1 g) fun w8 o8 m8 _ => ?_
 refine ldN_i (l := [.slice, .slice, .slice]) g (own_g (g := g) o8) ?_
 have so : Sls w7 W.heap.size tAGraph := ⟨_, o1'.mod K7 id, fun v hv => by simp at hv; exact ⟨⟨none, 0, 0⟩, hv⟩⟩
 exact hQ g G E w8 (EngIs.chg m8 so hE) (GvIs.chg m8 so ((hg.keep k6).keep k7)) ok hn ((k1.tr K7).fresh m8 fun k e => by rw [show k = W.heap.size from e]; exact Nat.le_refl _)
theorem SameMsg_i {p : MsgP} {s1 s2 : Sl} {w : World} {Q : Bool → World → Prop} (h1 : Rd w s1 1 eI p.edges) (h2 : Rd w s2 1 eI p.edges) (hl : p.edges.length ≤ 51) (hQ : ∀ w', Keep w w' → Q true w') : F_ref1_SameMsg (mTup (p, s1)) (mTup (p, s2)) w Q := by
 unfold F_ref1_SameMsg
 refine alloc_i fun w1 o1 k1 z1 => alloc_i fun w2 o2 k2 z2 => ?_
 have o1' : Own w1 w.heap.size tMsg (eMX (p, s1)) := o1
 have o2' : Own w2 w1.heap.size tMsg (eMX (p, s2)) := o2
 have K2 := k1.tr k2
 have oa : ∀ {wx : World}, Keep w2 wx → Own wx w.heap.size tMsg (eMX (p, s1)) := fun kx => (o1'.mod k2 id).mod kx id
 have ob : ∀ {wx : World}, Keep w2 wx → Own wx w1.heap.size tMsg (eMX (p, s2)) := fun kx => o2'.mod kx id
 have a2 := oa (Mod.refl _ _)
 have b2 := ob (Mod.refl _ _)
 refine ld1_i (k := .int .i64) p.kind (own_at a2 rfl) (ld1_i (k := .int .i64) p.kind (own_at b2 rfl) (cond_i (fun h => by simp at h) (fun _ => ?_)))
 refine ld1_i (k := .int .i64) p.pos (own_at a2 rfl) (ld1_i (k := .int .i64) p.pos (own_at b2 rfl) (cond_i (fun h => by simp at h) (fun _ => ?_)))
 refine ld1_i (k := .int .i64) p.dest (own_at a2 rfl) (ld1_i (k := .int .i64) p.dest (own_at b2 rfl) (cond_i (fun h => by simp at h) (fun _ => ?_)))
 refine ld1_i (k := .int .i64) p.weight (own_at a2 rfl) (ld1_i (k := .int .i64) p.weight (own_at b2 rfl) (cond_i (fun h => by simp at h) (fun _ => ?_)))
 have hints : ∀ {wx : World} {b : Nat} {s : Sl}, Own wx b tMsg (eMX (p, s)) → HoldsAt wx ((⟨b, 0, none⟩ : Addr).add 5) 0 (encs [.int .i64, .int .i64, .int .i64, .int .i64] (hTup p.hint)) := fun o => by
  rw [addr_lit, Nat.zero_add]
  refine o.holds fun j v hj => ?_
  match j, hj with
  | 0, hj => exact hj
  | 1, hj => exact hj
  | 2, hj => exact hj
  | 3, hj => exact hj
  | _ + 4, hj => cases hj
 refine ldN_i (l := [.int .i64, .int .i64, .int .i64, .int .i64]) (hTup p.hint) (hints a2) (ldN_i (l := [.int .i64, .int .i64, .int .i64, .int .i64]) (hTup p.hint) (hints b2) (cond_i (fun h => by simp at h) (fun _ => ?_)))
 have l1 := h1.len
 have l2 := h2.len
 refine ld1_i (k := .slice) s1 (own_at a2 rfl) (ld1_i (k := .slice) s2 (own_at b2 rfl) (cond_i (fun h => by rw [l1, l2] at h; simp at h) (fun _ => ?_)))
 refine loop_i (fun c t w3 => ∃ (i : Nat), i ≤ p.edges.length ∧ c = p.edges.length - i ∧ t = ((i : Int), ()) ∧ Keep w2 w3) p.edges.length ⟨0, Nat.zero_le _, rfl, rfl, Mod.refl _ _⟩ ?_
 rintro c t w3 ⟨i, hi, rfl, rfl, k3⟩ X hX
 dsimp only
 refine ld1_i (k := .slice) s1 (own_at (oa k3) rfl) (cond_d (fun hlt => ?_) (fun hge => hQ w3 (K2.tr k3)))
 have hi' : i < p.edges.length := by omega
 have hget := List.getElem?_eq_getElem hi'
 generalize p.edges[i] = x at *
 have d3 : Keep w3 w3.drew := Mod.drew (Mod.refl _ w3)
 have K3 := k3.tr d3
 obtain ⟨a, ha, hx⟩ := rd_cell (k := .int .i64) (e := fun x => x) (h1.mod (K2.tr K3) eI_ne fun _ _ => id) hget
 obtain ⟨b, hb, hy⟩ := rd_cell (k := .int .i64) (e := fun x => x) (h2.mod (K2.tr K3) eI_ne fun _ _ => id) hget
 rw [Int.toNat_natCast]
 refine ld1_i (k := .slice) s1 (own_at (oa K3) rfl) ⟨⟨by omega, by omega⟩, onSome_i ha (ld1_i (k := .int .i64) x hx (ld1_i (k := .slice) s2 (own_at (ob K3) rfl) ⟨⟨by omega, by omega⟩, onSome_i hb (ld1_i (k := .int .i64) x hy (cond_i (fun h => by simp at h) (fun _ => ?_)))⟩))⟩
 rw [wi_ i (by omega)]
 exact hX _ _ _ (by omega) ⟨i + 1, hi', rfl, rfl, K3⟩
theorem alike28_i {a b : Sl} {l : List MsgP} {P P' : Nat → Prop} {w : World} {Q : Bool → World → Prop} (h1 : MsgsIs w P a l) (h2 : MsgsIs w P' b l) (hl : l.length ≤ 1000) (hQ : ∀ w', Keep w w' → Q true w') : F_law28_alike a b w Q := by
 unfold F_law28_alike
 have l1 := h1.len
 have l2 := h2.len
 refine cond_i (fun h => by rw [l1, l2] at h; simp at h) (fun _ => ?_)
 refine loop_i (fun c t w3 => ∃ (i : Nat), i ≤ l.length ∧ c = l.length - i ∧ t = ((i : Int), ()) ∧ Keep w w3) l.length ⟨0, Nat.zero_le _, rfl, rfl, Mod.refl _ _⟩ ?_
 rintro c t w3 ⟨i, hi, rfl, rfl, k3⟩ X hX
 dsimp only
 refine cond_d (fun hlt => ?_) (fun hge => hQ w3 k3)
 have hi' : i < l.length := by omega
 have hget := List.getElem?_eq_getElem hi'
 generalize l[i] = p at *
 have d3 : Keep w3 w3.drew := Mod.drew (Mod.refl _ w3)
 have K3 := k3.tr d3
 obtain ⟨a', s1, ha, x1, hh1, _⟩ := (h1.keep K3).get hget
 obtain ⟨b', s2, hb, x2, hh2, _⟩ := (h2.keep K3).get hget
 rw [Int.toNat_natCast]
 refine ⟨⟨by omega, by omega⟩, onSome_i ha (ldN_i (l := kMX) (mTup (p, s1)) hh1 ⟨⟨by omega, by omega⟩, onSome_i hb (ldN_i (l := kMX) (mTup (p, s2)) hh2 ?_)⟩)⟩
 refine SameMsg_i (p := p) (s1 := s1) (s2 := s2) x1.rd x2.rd x1.len fun w4 k4 => ?_
 refine cond_i (fun h => by simp at h) (fun _ => ?_)
 rw [wi_ i (by omega)]
 exact hX _ _ _ (by omega) ⟨i + 1, hi', rfl, rfl, K3.tr k4⟩
theorem awake28_i {w : World} {Q : Bool → World → Prop} (hQ : ∀ w', Keep w w' → Q true w') : F_law28_awake w Q := by
 unfold F_law28_awake
 refine alloc_i fun w1 o1 k1 z1 => ?_
 refine made28_i ((Vec.new lenI [(3 : Int), 3, 5] o1 (by simp [maxLen])).rd lenI) fun g G E w2 hE hg ok hn k2 => ?_
 refine agg_new (vs := gcs g) size_AGraph rfl (gone1 g) fun w4 o4 k4 z4 => ?_
 have hm := ok.m1
 have hE0 : G.isE 0 := ⟨by omega, by omega⟩
 have gl : g.2.1.l = G.m := hg.ed.len
 refine cond_i (fun h => by simp at h) (fun _ => ?_)
 refine ld1_i (k := .slice) g.2.1 (own3 o4).2.1 (cond_i (fun h => by rw [gl] at h; simp at h; omega) (fun _ => ld1_i (k := .slice) g.2.1 (own3 o4).2.1 ⟨⟨by omega, by omega⟩, ?_⟩))
 obtain ⟨p, hp, _, _, ct, _⟩ := (hg.keep k4).edge hE0
 refine onSome_i hp (ld1_i (k := .int .i64) (G.to 0) ct ?_)
 have hto := (ok.ed _ (G.ed_mem hE0)).2.1
 refine SNew_i (hE.keep k4) (c := []) (Rd.nil _ _ _) (fun hb => absurd ⟨hE0, hto⟩ hb) fun _ _ z ms w5 hz h5 ok5 q5 _ k5 => ?_
 obtain ⟨l, wt, f, r, hA, rfl⟩ := hz
 have hsrc : G.gw [] (G.to 0) 0 0 := .nil ⟨hE0, rfl⟩
 obtain ⟨rfl, rfl, rfl, rfl⟩ : l = [] ∧ wt = 0 ∧ f = true ∧ r = false := by
  cases hA with
  | no hno => exact absurd hsrc (hno 0 hto)
  | near _ _ h0 hl _ =>
   have := ok.dsv_le h0 hsrc
   cases hl with
   | nil _ => exact ⟨rfl, rfl, rfl, rfl⟩
   | cons hp _ _ => exact absurd hp (Int.not_lt.2 this.2)
  | far _ _ _ _ _ hs _ => obtain ⟨x, _, hx⟩ := hs; rw [shut_nil] at hx; cases hx
 have ez : askW G (ses0 0 (G.to 0)) [] 0 true = (⟨0, G.to 0, [], true, true⟩, [mRoute [] 0, mArrived]) := by
  unfold askW hintS
  rw [if_pos rfl, if_pos rfl]
 rw [ez] at h5 ok5 q5
 dsimp only at h5 ok5 q5
 refine SNew_bad (.inr (by omega)) (SNew_bad (.inl rfl) ?_)
 refine cond_i (fun h => by simp at h) (fun _ => cond_i (fun h => by simp at h) (fun _ => ?_))
 refine Left_i h5 (by simp) (fun _ => rfl) fun s6 w8 v8 k8 _ => ?_
 refine alloc_i fun w9 o9 k9 z9 => ?_
 have lit : MsgsIs w9 (fun _ => True) ⟨some ⟨w8.heap.size, 0, none⟩, 3, 3⟩ [mOpened, mRoute [] 0, mArrived] :=
  ⟨[(mOpened, ⟨none, 0, 0⟩), (mRoute [] 0, ⟨none, 0, 0⟩), (mArrived, ⟨none, 0, 0⟩)], (Vec.new lenMX [(mOpened, (⟨none, 0, 0⟩ : Sl)), (mRoute [] 0, ⟨none, 0, 0⟩), (mArrived, ⟨none, 0, 0⟩)] o9 (by simp [maxLen])).rd lenMX, rfl, fun b hb => by cases hb; exact ⟨trivial, o9.lt⟩, fun x hx => by
   simp at hx
   rcases hx with rfl | rfl | rfl <;> exact MsgX.none rfl⟩
 have k59 := k8.tr k9
 refine alike28_i (q5.keep k59) lit (by simp) fun w10 k10 => ?_
 have h10 := (h5.keep k59).keep k10
 refine cond_i (fun _ => cond_i (fun _ => cond_i (fun _ => ?_) (fun h => by simp at h)) (fun h => by simp at h)) (fun h => by simp at h)
 refine Done_i h10 (cond_i (fun _ => At_i h10 (cond_i (fun _ => cond_i (fun _ => ?_) (fun h => by simp at h)) (fun h => by simp at h))) (fun h => by simp at h))
 have sl := v8.len
 refine cond_i (fun _ => ?_) (fun h => by rw [sl] at h; simp at h)
 refine Report_i h10 ok5 (c := []) (Rd.nil _ _ _) (fun b hb => by cases hb) (fun k hk => by have := h10.lt; omega) fun z ms2 w13 hz2 h13 ok13 q13 _ m13 => ?_
 have hz' : z = (⟨0, G.to 0, [], true, true⟩, []) := by unfold RepR at hz2; rw [if_pos rfl] at hz2; exact hz2
 rw [hz'] at q13
 have l13 := q13.len
 refine cond_i (fun _ => ?_) (fun h => by rw [l13] at h; simp at h)
 have dn : ∀ {w : World} {Q : Bool → World → Prop}, Q true w → F_sS_Done none w Q := fun h => by
  unfold F_sS_Done
  exact cond_i (fun _ => h) (fun h => by simp at h)
 refine dn (cond_i (fun _ => Report_none ?_) (fun h => by simp at h))
 have K4 := (k1.tr k2).tr k4
 have := hQ w13 ((((K4.tr k5).tr k59).tr k10).fresh m13 fun k e => by rw [show k = w4.heap.size from e]; have := K4.size; omega)
 simpa using this
end Go.Proofs.YtjjgcimlmjnaeaaGreat
