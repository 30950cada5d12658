import Derived.Test.YtjjgcimlmjnaeaaGreatQ6
import Derived.Test.YtjjgcimlmjnaeaaGreatFRes
import Derived.Test.YtjjgcimlmjnaeaaGreatQ5
import Derived.Test.YtjjgcimlmjnaeaaGreatQ4
import Derived.Test.YtjjgcimlmjnaeaaGreatA4
namespace Go.Proofs.YtjjgcimlmjnaeaaGreat
open Go Go.Den
section
variable {g : GT} {G : Gr} {W : World} (h : GvIs W g G) (ok : OkG G)
include h ok
theorem RAsk_i {at_ node : Int} {shut : Sl} {c : List Bool} {Q : AT → World → Prop} (hc : Rd W shut 1 eB c)
  (hQ : ∀ s wt f r l w', G.AnsIs node at_ c l wt f r → Vec w' tInt 1 eI s l → l.length ≤ 51 → (∀ b, s.b = some b → W.heap.size ≤ b.block) → Keep W w' → Q (s, wt, f, r, ()) w') : F_ref4_Ask g at_ node shut W Q := by
 unfold F_ref4_Ask
 have hm := ok.m1
 refine alloc_i fun w1 o1 k1 z1 => alloc_i fun w2 o2 k2 z2 => ?_
 have K2 := k1.tr k2
 have hW1 : W.heap.size < w1.heap.size := by omega
 have og : ∀ {wx : World}, Keep w1 wx → Own wx W.heap.size tAGraph (gcs g) := fun kx => o1.mod kx id
 have fin : ∀ w3 s wt f r l, Keep w2 w3 → G.AnsIs node at_ c l wt f r → Vec w3 tInt 1 eI s l → (∀ b, s.b = some b → w2.heap.size ≤ b.block) → l.length ≤ 51 → storeD Tryz.prog tRAns ⟨w1.heap.size, 0, none⟩ (Value.agg #[(Value.slice s.b s.l s.c), (Value.int .i64 wt), (Value.bool f), (Value.bool r)]) w3 fun w4 =>
   ldN [.slice, .int .i64, .bool, .bool] w4 ⟨w1.heap.size, 0, none⟩ fun (t2 : AT) => Q (t2.1, t2.2.1, t2.2.2.1, t2.2.2.2.1, ()) w4 := by
  intro w3 s wt f r l k3 hA v3 f3 hl
  have o3 := o2.mod k3 id
  refine agg_store (vs := eAns (s, wt, f, r, ())) o3 size_RAns rfl (oneAns _) fun w4 o4 m4 _ => ?_
  refine ldN_i (l := [.slice, .int .i64, .bool, .bool]) (s, wt, f, r, ()) (own_ans o4) ?_
  refine hQ s wt f r l w4 hA (v3.mod m4 fun b hb e => ?_) hl (fun b hb => by have := f3 b hb; have := K2.size; omega) ((K2.tr k3).fresh m4 fun k e => by rw [show k = w1.heap.size from e]; omega)
  have := f3 b hb
  have e' : b.block = w1.heap.size := e
  omega
 refine ldN_i (l := [.slice, .slice, .slice]) g (own_g (g := g) (og k2)) ?_
 refine RWay_i (h.keep K2) ok (hc.mod K2 eB_ne fun _ _ => id) (fun w3 k3 hno => ?_) fun d1 l s1 w3 hE hN hd1 hl v3 k3 f3 => ?_
 ·refine cond_i (fun _ => ?_) (fun h => by simp at h)
  exact fin w3 ⟨none, 0, 0⟩ 0 false false [] k3 (.no hno) (Vec.nil _ _ _ _) (fun b hb => by cases hb) (by simp)
 refine cond_i (fun h => by simp at h) (fun _ => ?_)
 have hll := hl.len ok
 have hfacts := hl.facts ok
 have hl51 : l.length ≤ 51 := by omega
 have K3 := k2.tr k3
 refine ldN_i (l := [.slice, .slice, .slice]) g (own_g (g := g) (og K3)) ?_
 refine RWeight_i (h.keep (k1.tr K3)) ok (v3.rd lenI) (by omega) (fun x hx => (hfacts.2.2.1 x hx).1) fun w5 k5 => ?_
 have K5 := K3.tr k5
 refine ldN_i (l := [.slice, .slice, .slice]) g (own_g (g := g) (og K5)) ?_
 have hg1 := ok.lway_gw hd1 hE hl fun x hx => (hfacts.2.2.1 x hx).2
 refine RWay_i (c := []) (h.keep (k1.tr K5)) ok (Rd.nil _ _ _) (fun w6 k6 hno => absurd (G.gw_open hg1) (hno _ hN)) fun d0 l0 s2 w6 _ _ hd0 hl0 v6 k6 f6 => ?_
 refine cond_i (fun h => by simp at h) (fun _ => ?_)
 have hl0l := hl0.len ok
 have v36 := (v3.mod k5 fun _ _ => id).mod k6 fun _ _ => id
 refine RCmp_i (v36.rd lenI) (v6.rd lenI) (by omega) fun x w8 k8 hx => ?_
 have kk : Keep w2 w8 := ((k3.tr k5).tr k6).tr k8
 by_cases e : l = l0
 ·have hx0 : x = 0 := hx.2 e
  subst hx0
  subst e
  exact fin w8 s1 (G.wsum l) true _ l kk (.near hN hE hd0 hl0 fun x hx => (hfacts.2.2.1 x hx).2) (v36.mod k8 fun _ _ => id) f3 hl51
 ·have hx0 : (x != 0) = true := by
   have : x ≠ 0 := fun h => e (hx.1 h)
   simpa using this
  rw [hx0]
  refine fin w8 s1 (G.wsum l) true true l kk (.far hN hE hd0 hd1 hl0 ?_ hl) (v36.mod k8 fun _ _ => id) f3 hl51
  refine Classical.byContradiction fun hn => e ?_
  have hs : ∀ x ∈ l0, shutB c x = false := fun x hx => by
   cases hs : shutB c x with
   | false => rfl
   | true => exact absurd ⟨x, hx, hs⟩ hn
  exact hl.uniq (ok.lway_same hd0 hd1 hE hl0 hs).1
theorem RWalk_i {e : Int} {es : Sl} {l : List Int} {Q : Bool → World → Prop} (hr : Rd W es 1 eI l) (hlen : l.length ≤ 100000) (hQ : ∀ w', Keep W w' → Q (decide (G.isE e) && G.walkB e l) w') : F_ref4_Walk g e es W Q := by
 unfold F_ref4_Walk
 have hll := hr.len
 refine alloc_i fun w1 o1 k1 z1 => ?_
 have og : ∀ {wx : World}, Keep w1 wx → Own wx W.heap.size tAGraph (gcs g) := fun kx => o1.mod kx id
 refine ldN_i (l := [.slice, .slice, .slice]) g (own_g (g := g) o1) ?_
 refine REdge_i (h.keep k1) ok fun w2 k2 => cond_i (fun hn => ?_) (fun hy => ?_)
 ·have := hQ w2 (k1.tr k2)
  have hn' : decide (G.isE e) = false := by
   cases hd : decide (G.isE e) with
   | true => rw [hd] at hn; cases hn
   | false => rfl
  rw [hn'] at this; exact this
 have hE : decide (G.isE e) = true := by simpa using hy
 rw [hE] at hQ
 simp only [Bool.true_and] at hQ
 refine loop_i (fun c' s w3 => ∃ (i : Nat) (cur : Int), i ≤ l.length ∧ c' = l.length - i ∧ s = (cur, (i : Int), ()) ∧ Keep w1 w3 ∧ G.walkB e l = G.walkB cur (l.drop i)) l.length ⟨0, e, Nat.zero_le _, rfl, rfl, k2, rfl⟩ ?_
 rintro c' s w3 ⟨i, cur, hi, rfl, rfl, k3, hw⟩ X hX
 dsimp only
 refine cond_d (fun hlt => ?_) (fun hge => ?_)
 ·have hi' : i < l.length := by omega
  have hget := List.getElem?_eq_getElem hi'
  have hdrop : l.drop i = l[i] :: l.drop (i + 1) := List.drop_eq_getElem_cons hi'
  generalize l[i] = x at *
  have d3 : Keep w3 w3.drew := Mod.drew (Mod.refl _ w3)
  have kd := k3.tr d3
  obtain ⟨p, hp, hc⟩ := rd_cell (k := .int .i64) (e := fun x => x) (hr.mod (k1.tr kd) eI_ne fun _ _ => id) hget
  rw [Int.toNat_natCast]
  have B : 0 ≤ (i : Int) ∧ (i : Int) < ((es.l : Nat) : Int) := ⟨by omega, hlt⟩
  refine ldN_i (l := [.slice, .slice, .slice]) g (own_g (g := g) (og kd)) ⟨B, onSome_i hp (ld1_i (k := .int .i64) x hc ?_)⟩
  refine RTurn_i (h.keep (k1.tr kd)) ok fun w4 k4 => ?_
  have K4 := kd.tr k4
  refine cond_i (fun hn => ?_) (fun hy => ?_)
  ·have := hQ w4 (k1.tr K4)
   have hn' : G.turn cur x = false := by simpa using hn
   rw [hw, hdrop] at this
   simp only [Gr.walkB, hn', Bool.false_and] at this
   exact this
  ·have hy' : G.turn cur x = true := by simpa using hy
   obtain ⟨p', hp', hc'⟩ := rd_cell (k := .int .i64) (e := fun x => x) (hr.mod (k1.tr K4) eI_ne fun _ _ => id) hget
   refine ⟨B, onSome_i hp' (ld1_i (k := .int .i64) x hc' ?_)⟩
   rw [wi_ i (by omega)]
   refine hX _ _ _ (by omega) ⟨i + 1, x, hi', rfl, rfl, K4, ?_⟩
   rw [hw, hdrop]; simp only [Gr.walkB, hy', Bool.true_and]
 ·have ei : i = l.length := by omega
  subst ei
  rw [List.drop_length] at hw
  have := hQ w3 (k1.tr k3)
  rw [hw] at this; exact this
end
end Go.Proofs.YtjjgcimlmjnaeaaGreat

namespace Go.Proofs.YtjjgcimlmjnaeaaGreat
open Go Go.Den
theorem RFar_i {n : Int} {w : World} {Q : Int → World → Prop} (h : -100000000 ≤ n ∧ n ≤ 100000000) (hQ : Q (absI n) w) : F_ref4_far n w Q := by
 unfold F_ref4_far
 unfold absI at hQ
 refine cond_d (fun hn => ?_) (fun hn => ?_)
 ·rw [w64 (n := 0 - n) (by omega) (by omega)]
  rw [if_pos hn] at hQ
  rw [show (0 : Int) - n = -n by omega]; exact hQ
 ·rw [if_neg hn] at hQ; exact hQ
theorem RClass_i {ax ay bx by_ : Int} {w : World} {Q : Int → World → Prop} (h1 : rngP ax) (h2 : rngP ay) (h3 : rngP bx) (h4 : rngP by_) (hQ : ∀ w', Keep w w' → Q (clsP ax ay bx by_) w') : F_ref4_Class ax ay bx by_ w Q := by
 unfold F_ref4_Class
 refine agg_new (vs := [.int .i64 ax, .int .i64 ay, .int .i64 bx, .int .i64 by_]) ?_ rfl (by simp [Value.oneCell']) fun w2 o2 k2 z2 => ?_
 ·kernel_rfl
 have v2 := (Vec.new lenI [ax, ay, bx, by_] o2 (by simp [maxLen])).rd lenI
 refine loop_i (fun c t w1 => ∃ (i : Nat), i ≤ 4 ∧ c = 4 - i ∧ t = ((i : Int), ()) ∧ w1 = w2) 4 ⟨0, by omega, rfl, rfl, rfl⟩ ?_
 rintro c t w1 ⟨i, hi, rfl, rfl, e⟩ X hX
 subst e
 dsimp only
 refine cond_d (fun hlt => ?_) (fun hge => ?_)
 ·have hi' : i < 4 := by omega
  have hx : ∃ x, [ax, ay, bx, by_][i]? = some x ∧ rngP x := by
   match i, hi' with
   | 0, _ => exact ⟨ax, rfl, h1⟩
   | 1, _ => exact ⟨ay, rfl, h2⟩
   | 2, _ => exact ⟨bx, rfl, h3⟩
   | 3, _ => exact ⟨by_, rfl, h4⟩
  obtain ⟨x, hget, hr⟩ := hx
  obtain ⟨a, ha, hc⟩ := rd_cell (k := .int .i64) (e := fun x => x) v2 hget
  cases ha
  rw [Int.toNat_natCast]
  refine ⟨⟨by omega, by omega⟩, ld1_i (k := .int .i64) x hc (rwithin_i ?_)⟩
  rw [decide_eq_true (show (-4095 : Int) ≤ x ∧ x ≤ 4095 from hr)]
  refine cond_i (fun h => by simp at h) (fun _ => ?_)
  rw [wi_ i (by omega)]
  exact hX _ _ _ (by omega) ⟨i + 1, hi', rfl, rfl, rfl⟩
 have hQ := hQ _ k2
 clear hX
 intro J1 hJ1
 have core : ¬ ((ax = 0 ∧ ay = 0) ∨ (bx = 0 ∧ by_ = 0)) → J1 () w1 := by
  intro hn
  apply hJ1
  rw [clsP_eq hn] at hQ
  have p1 := mul_rng h1 h4
  have p2 := mul_rng h2 h3
  have p3 := mul_rng h1 h3
  have p4 := mul_rng h2 h4
  rw [w64 (n := ax * by_) (by omega) (by omega), w64 (n := ay * bx) (by omega) (by omega), w64 (n := ax * bx) (by omega) (by omega), w64 (n := ay * by_) (by omega) (by omega),
   w64 (n := ax * by_ - ay * bx) (by omega) (by omega), w64 (n := ax * bx + ay * by_) (by omega) (by omega)]
  have q1 : -33538050 ≤ ax * by_ - ay * bx ∧ ax * by_ - ay * bx ≤ 33538050 := by omega
  have q2 : -33538050 ≤ ax * bx + ay * by_ ∧ ax * bx + ay * by_ ≤ 33538050 := by omega
  clear p1 p2 p3 p4 hn
  generalize ax * by_ - ay * bx = c at *
  generalize ax * bx + ay * by_ = d at *
  rw [w64 (n := 0 - c) (by omega) (by omega), w64 (n := 0 - d) (by omega) (by omega)]
  have ha : 0 ≤ absI c ∧ absI c ≤ 33538050 := by unfold absI; split <;> omega
  have q : ∀ v, v = clsC c d → Q v w1 := fun v hv => by rw [hv]; exact hQ
  intro J2 hJ2
  have j2 : ∀ b : Bool, (b = true ↔ d > 0 ∧ 4 * absI c ≤ d) → J2 (b, ()) w1 := by
   intro b hb
   apply hJ2
   refine cond_i (fun hbt => q _ (by unfold clsC; rw [if_pos (hb.1 hbt)])) (fun hbf => ?_)
   have n1 : ¬ (d > 0 ∧ 4 * absI c ≤ d) := fun h => by have hbf' : b = false := hbf; rw [hb.2 h] at hbf'; cases hbf'
   intro J3 hJ3
   have j3 : ∀ b : Bool, (b = true ↔ d < 0 ∧ 4 * absI c ≤ -d) → J3 (b, ()) w1 := by
    intro b hb
    apply hJ3
    refine cond_i (fun hbt => q _ (by unfold clsC; rw [if_neg n1, if_pos (hb.1 hbt)])) (fun hbf => ?_)
    have n2 : ¬ (d < 0 ∧ 4 * absI c ≤ -d) := fun h => by have hbf' : b = false := hbf; rw [hb.2 h] at hbf'; cases hbf'
    intro J4 hJ4
    have j4 : ∀ b : Bool, (b = true ↔ c > 0 ∧ d > 0 ∧ c ≤ d) → J4 (b, ()) w1 := by
     intro b hb
     apply hJ4
     refine cond_i (fun hbt => q _ (by unfold clsC; rw [if_neg n1, if_neg n2, if_pos (hb.1 hbt)])) (fun hbf => ?_)
     have n3 : ¬ (c > 0 ∧ d > 0 ∧ c ≤ d) := fun h => by have hbf' : b = false := hbf; rw [hb.2 h] at hbf'; cases hbf'
     intro J5 hJ5
     have j5 : ∀ b : Bool, (b = true ↔ c > 0 ∧ d < 0 ∧ c ≤ -d) → J5 (b, ()) w1 := by
      intro b hb
      apply hJ5
      refine cond_i (fun hbt => q _ (by unfold clsC; rw [if_neg n1, if_neg n2, if_neg n3, if_pos (hb.1 hbt)])) (fun hbf => ?_)
      have n4 : ¬ (c > 0 ∧ d < 0 ∧ c ≤ -d) := fun h => by have hbf' : b = false := hbf; rw [hb.2 h] at hbf'; cases hbf'
      have base : clsC c d = if c > 0 then 3 else if d > 0 ∧ -c ≤ d then 6 else if d < 0 ∧ -c ≤ -d then 8 else 7 := by unfold clsC; rw [if_neg n1, if_neg n2, if_neg n3, if_neg n4]
      refine cond_d (fun g1 => q _ (by rw [base, if_pos g1])) (fun g1 => ?_)
      have low : ∀ v, (v = if d > 0 ∧ -c ≤ d then 6 else if d < 0 ∧ -c ≤ -d then 8 else 7) → Q v w1 := fun v hv => q _ (by rw [base, if_neg g1]; exact hv)
      have l2 : ¬ (d > 0 ∧ -c ≤ d) → cond (decide (d < 0)) (cond (decide (0 - c ≤ 0 - d)) (Q 8 w1) (Q 7 w1)) (Q 7 w1) := fun nd =>
       cond_d (fun g => cond_d (fun g' => low _ (by rw [if_neg nd, if_pos ⟨g, by omega⟩])) (fun g' => low _ (by rw [if_neg nd, if_neg (by omega)]))) (fun g => low _ (by rw [if_neg nd, if_neg (by omega)]))
      exact cond_d (fun g => cond_d (fun g' => low _ (by rw [if_pos ⟨g, by omega⟩])) (fun g' => l2 (by omega))) (fun g => l2 (by omega))
     exact cond_d (fun g => cond_d (fun g' => j5 _ (by simp only [decide_eq_true_eq]; omega)) (fun g' => j5 _ (by simp; omega))) (fun g => j5 _ (by simp; omega))
    exact cond_d (fun g => cond_d (fun g' => j4 _ (by simp only [decide_eq_true_eq]; omega)) (fun g' => j4 _ (by simp; omega))) (fun g => j4 _ (by simp; omega))
   refine cond_d (fun g => RFar_i (by omega) ?_) (fun g => j3 _ (by simp; omega))
   rw [w64 (n := 4 * absI c) (by omega) (by omega)]
   exact j3 _ (by simp only [decide_eq_true_eq]; omega)
  refine cond_d (fun g => RFar_i (by omega) ?_) (fun g => j2 _ (by simp; omega))
  rw [w64 (n := 4 * absI c) (by omega) (by omega)]
  exact j2 _ (by simp only [decide_eq_true_eq]; omega)
 have zero : ((ax = 0 ∧ ay = 0) ∨ (bx = 0 ∧ by_ = 0)) → Q 0 w1 := fun h => by
  have : clsP ax ay bx by_ = 0 := by unfold clsP; rw [if_pos h]
  rw [this] at hQ; exact hQ
 have tb : ¬ (ax = 0 ∧ ay = 0) → cond (bx == 0) (cond (by_ == 0) (Q 0 w1) (J1 () w1)) (J1 () w1) := fun hn => by
  refine cond_i (fun g1 => cond_i (fun g2 => zero (.inr ⟨by simpa using g1, by simpa using g2⟩)) (fun g2 => core fun h => ?_)) (fun g1 => core fun h => ?_)
  ·rcases h with h | h
   ·exact hn h
   ·rw [h.2] at g2; simp at g2
  ·rcases h with h | h
   ·exact hn h
   ·rw [h.1] at g1; simp at g1
 refine cond_i (fun g1 => cond_i (fun g2 => zero (.inl ⟨by simpa using g1, by simpa using g2⟩)) (fun g2 => tb fun h => ?_)) (fun g1 => tb fun h => ?_)
 ·rw [h.2] at g2; simp at g2
 ·rw [h.1] at g1; simp at g1
theorem holds_k {w w' : World} {a : Addr} {i : Nat} {vs : List Value} (h : HoldsAt w a i vs) (k : Keep w w') : HoldsAt w' a i vs := holds_iff.2 fun j v hj => k.cell (holds_iff.1 h j v hj) id
abbrev e2 (p : Int × Int) : List Value := [.int .i64 p.1, .int .i64 p.2]
theorem pair_i {g : GT} {G : Gr} {w : World} {A : Nat} {i : Int} {J : (Option Addr) × (Option Addr) × Unit → World → Prop} (h : GvIs w g G) (ok : OkG G) (oa : Own w A tAGraph (gcs g)) (hi : G.isE i)
  (hJ : ∀ x y w', Own w' x tNode (e2 (G.nd (G.fr i))) → Own w' y tNode (e2 (G.nd (G.to i))) → Keep w w' → J (some ⟨x, 0, none⟩, some ⟨y, 0, none⟩, ()) w') :
  ld1 .slice w ((⟨A, 0, none⟩ : Addr).add 0) fun (s5 : Sl) => ld1 .slice w ((⟨A, 0, none⟩ : Addr).add 1) fun (s6 : Sl) => (0 ≤ i ∧ i < ((s6.l : Nat) : Int)) ∧ onSome s6.b fun a18 => ld1 (.int .i64) w ((a18.add (Int.toNat i * 3)).add 0) fun (x12 : Int) =>
   (0 ≤ x12 ∧ x12 < ((s5.l : Nat) : Int)) ∧ onSome s5.b fun a19 => ldN [.int .i64, .int .i64] w (a19.add (Int.toNat x12 * 2)) fun (t7 : Int × Int × Unit) =>
   ld1 .slice w ((⟨A, 0, none⟩ : Addr).add 0) fun (s7 : Sl) => ld1 .slice w ((⟨A, 0, none⟩ : Addr).add 1) fun (s8 : Sl) => (0 ≤ i ∧ i < ((s8.l : Nat) : Int)) ∧ onSome s8.b fun a20 => ld1 (.int .i64) w ((a20.add (Int.toNat i * 3)).add 1) fun (x13 : Int) =>
   (0 ≤ x13 ∧ x13 < ((s7.l : Nat) : Int)) ∧ onSome s7.b fun a21 => ldN [.int .i64, .int .i64] w (a21.add (Int.toNat x13 * 2)) fun (t8 : Int × Int × Unit) =>
   (allocD w #[.int .i64 0, .int .i64 0] tNode fun a22 w15 =>
    HoldsAt w15 (a21.add (Int.toNat x13 * 2)) 0 [Value.int .i64 t8.1, Value.int .i64 t8.2.1] ∧ w15.cell? ((a20.add (Int.toNat i * 3)).add 1) = some (Value.int .i64 x13) ∧ w15.cell? ((⟨A, 0, none⟩ : Addr).add 1) = some (Value.slice s8.b s8.l s8.c) ∧ w15.cell? ((⟨A, 0, none⟩ : Addr).add 0) = some (Value.slice s7.b s7.l s7.c) ∧
    HoldsAt w15 (a19.add (Int.toNat x12 * 2)) 0 [Value.int .i64 t7.1, Value.int .i64 t7.2.1] ∧ w15.cell? ((a18.add (Int.toNat i * 3)).add 0) = some (Value.int .i64 x12) ∧ w15.cell? ((⟨A, 0, none⟩ : Addr).add 1) = some (Value.slice s6.b s6.l s6.c) ∧ w15.cell? ((⟨A, 0, none⟩ : Addr).add 0) = some (Value.slice s5.b s5.l s5.c) ∧
    allocD w15 #[.int .i64 0, .int .i64 0] tNode fun a23 w16 =>
    HoldsAt w16 (a21.add (Int.toNat x13 * 2)) 0 [Value.int .i64 t8.1, Value.int .i64 t8.2.1] ∧ w16.cell? ((a20.add (Int.toNat i * 3)).add 1) = some (Value.int .i64 x13) ∧ w16.cell? ((⟨A, 0, none⟩ : Addr).add 1) = some (Value.slice s8.b s8.l s8.c) ∧ w16.cell? ((⟨A, 0, none⟩ : Addr).add 0) = some (Value.slice s7.b s7.l s7.c) ∧
    HoldsAt w16 (a19.add (Int.toNat x12 * 2)) 0 [Value.int .i64 t7.1, Value.int .i64 t7.2.1] ∧ w16.cell? ((a18.add (Int.toNat i * 3)).add 0) = some (Value.int .i64 x12) ∧ w16.cell? ((⟨A, 0, none⟩ : Addr).add 1) = some (Value.slice s6.b s6.l s6.c) ∧ w16.cell? ((⟨A, 0, none⟩ : Addr).add 0) = some (Value.slice s5.b s5.l s5.c) ∧
    storeD Tryz.prog tNode a22 (Value.agg #[(Value.int .i64 t7.1), (Value.int .i64 t7.2.1)]) w16 fun w17 =>
    HoldsAt w17 (a21.add (Int.toNat x13 * 2)) 0 [Value.int .i64 t8.1, Value.int .i64 t8.2.1] ∧ w17.cell? ((a20.add (Int.toNat i * 3)).add 1) = some (Value.int .i64 x13) ∧ w17.cell? ((⟨A, 0, none⟩ : Addr).add 1) = some (Value.slice s8.b s8.l s8.c) ∧ w17.cell? ((⟨A, 0, none⟩ : Addr).add 0) = some (Value.slice s7.b s7.l s7.c) ∧
    storeD Tryz.prog tNode a23 (Value.agg #[(Value.int .i64 t8.1), (Value.int .i64 t8.2.1)]) w17 fun w18 => J ((some a22), (some a23), ()) w18) ∧
   (allocD w #[.int .i64 0, .int .i64 0] tNode fun a24 w19 =>
    HoldsAt w19 (a21.add (Int.toNat x13 * 2)) 0 [Value.int .i64 t8.1, Value.int .i64 t8.2.1] ∧ w19.cell? ((a20.add (Int.toNat i * 3)).add 1) = some (Value.int .i64 x13) ∧ w19.cell? ((⟨A, 0, none⟩ : Addr).add 1) = some (Value.slice s8.b s8.l s8.c) ∧ w19.cell? ((⟨A, 0, none⟩ : Addr).add 0) = some (Value.slice s7.b s7.l s7.c) ∧
    HoldsAt w19 (a19.add (Int.toNat x12 * 2)) 0 [Value.int .i64 t7.1, Value.int .i64 t7.2.1] ∧ w19.cell? ((a18.add (Int.toNat i * 3)).add 0) = some (Value.int .i64 x12) ∧ w19.cell? ((⟨A, 0, none⟩ : Addr).add 1) = some (Value.slice s6.b s6.l s6.c) ∧ w19.cell? ((⟨A, 0, none⟩ : Addr).add 0) = some (Value.slice s5.b s5.l s5.c) ∧
    allocD w19 #[.int .i64 0, .int .i64 0] tNode fun a25 w20 =>
    HoldsAt w20 (a21.add (Int.toNat x13 * 2)) 0 [Value.int .i64 t8.1, Value.int .i64 t8.2.1] ∧ w20.cell? ((a20.add (Int.toNat i * 3)).add 1) = some (Value.int .i64 x13) ∧ w20.cell? ((⟨A, 0, none⟩ : Addr).add 1) = some (Value.slice s8.b s8.l s8.c) ∧ w20.cell? ((⟨A, 0, none⟩ : Addr).add 0) = some (Value.slice s7.b s7.l s7.c) ∧
    HoldsAt w20 (a19.add (Int.toNat x12 * 2)) 0 [Value.int .i64 t7.1, Value.int .i64 t7.2.1] ∧ w20.cell? ((a18.add (Int.toNat i * 3)).add 0) = some (Value.int .i64 x12) ∧ w20.cell? ((⟨A, 0, none⟩ : Addr).add 1) = some (Value.slice s6.b s6.l s6.c) ∧ w20.cell? ((⟨A, 0, none⟩ : Addr).add 0) = some (Value.slice s5.b s5.l s5.c) ∧
    storeD Tryz.prog tNode a25 (Value.agg #[(Value.int .i64 t7.1), (Value.int .i64 t7.2.1)]) w20 fun w21 =>
    HoldsAt w21 (a21.add (Int.toNat x13 * 2)) 0 [Value.int .i64 t8.1, Value.int .i64 t8.2.1] ∧ w21.cell? ((a20.add (Int.toNat i * 3)).add 1) = some (Value.int .i64 x13) ∧ w21.cell? ((⟨A, 0, none⟩ : Addr).add 1) = some (Value.slice s8.b s8.l s8.c) ∧ w21.cell? ((⟨A, 0, none⟩ : Addr).add 0) = some (Value.slice s7.b s7.l s7.c) ∧
    storeD Tryz.prog tNode a24 (Value.agg #[(Value.int .i64 t8.1), (Value.int .i64 t8.2.1)]) w21 fun w22 => J ((some a25), (some a24), ()) w22) := by
 have c := own3 oa
 have he := ok.ed _ (G.ed_mem hi)
 have hf : G.isN (G.fr i) := he.1
 have ht : G.isN (G.to i) := he.2.1
 obtain ⟨pe, hpe, _, ef, et, _⟩ := h.edge hi
 obtain ⟨pn, hpn, hh1, _⟩ := rd2 h.nd (G.get_nd hf)
 obtain ⟨pn', hpn', hh2, _⟩ := rd2 h.nd (G.get_nd ht)
 have epn : pn' = pn := by rw [hpn] at hpn'; cases hpn'; rfl
 subst epn
 have bE : (0 ≤ i ∧ i < ((g.2.1.l : Nat) : Int)) := ⟨hi.1, by rw [h.ed.len]; exact hi.2⟩
 have bF : (0 ≤ G.fr i ∧ G.fr i < ((g.1.l : Nat) : Int)) := ⟨hf.1, by rw [h.nd.len]; exact hf.2⟩
 have bT : (0 ≤ G.to i ∧ G.to i < ((g.1.l : Nat) : Int)) := ⟨ht.1, by rw [h.nd.len]; exact ht.2⟩
 refine ld1_i (k := .slice) g.1 c.1 (ld1_i (k := .slice) g.2.1 c.2.1 ⟨bE, onSome_i hpe (ld1_i (k := .int .i64) (G.fr i) ef ⟨bF, onSome_i hpn (ldN_i (l := [.int .i64, .int .i64]) ((G.nd (G.fr i)).1, (G.nd (G.fr i)).2, ()) hh1 ?_)⟩)⟩)
 refine ld1_i (k := .slice) g.1 c.1 (ld1_i (k := .slice) g.2.1 c.2.1 ⟨bE, onSome_i hpe (ld1_i (k := .int .i64) (G.to i) et ⟨bT, onSome_i hpn (ldN_i (l := [.int .i64, .int .i64]) ((G.nd (G.to i)).1, (G.nd (G.to i)).2, ()) hh2 ?_)⟩)⟩)
 have nn : ∀ u : Int × Int, ∀ v ∈ e2 u, v.oneCell' = true := fun u v hv => by simp at hv; rcases hv with rfl | rfl <;> rfl
 refine ⟨?_, ?_⟩
 ·refine alloc_i fun w1 o1 k1 z1 => ⟨holds_k hh2 k1, k1.cell et id, k1.cell c.2.1 id, k1.cell c.1 id, holds_k hh1 k1, k1.cell ef id, k1.cell c.2.1 id, k1.cell c.1 id, alloc_i fun w2 o2 k2 z2 => ?_⟩
  have K2 := k1.tr k2
  refine ⟨holds_k hh2 K2, K2.cell et id, K2.cell c.2.1 id, K2.cell c.1 id, holds_k hh1 K2, K2.cell ef id, K2.cell c.2.1 id, K2.cell c.1 id, ?_⟩
  refine agg_store (vs := e2 (G.nd (G.fr i))) (o1.mod k2 id) size_Node rfl (nn _) fun w3 o3 m3 _ => ?_
  have K3 : Keep w w3 := K2.fresh m3 fun k e => by rw [show k = w.heap.size from e]; exact Nat.le_refl _
  refine ⟨holds_k hh2 K3, K3.cell et id, K3.cell c.2.1 id, K3.cell c.1 id, ?_⟩
  have ne : w1.heap.size ≠ w.heap.size := by omega
  refine agg_store (vs := e2 (G.nd (G.to i))) (o2.mod m3 ne) size_Node rfl (nn _) fun w4 o4 m4 _ => ?_
  exact hJ _ _ w4 (o3.mod m4 fun e => ne (by have e' : w.heap.size = w1.heap.size := e; omega)) o4 (K3.fresh m4 fun k e => by rw [show k = w1.heap.size from e]; omega)
 ·refine alloc_i fun w1 o1 k1 z1 => ⟨holds_k hh2 k1, k1.cell et id, k1.cell c.2.1 id, k1.cell c.1 id, holds_k hh1 k1, k1.cell ef id, k1.cell c.2.1 id, k1.cell c.1 id, alloc_i fun w2 o2 k2 z2 => ?_⟩
  have K2 := k1.tr k2
  refine ⟨holds_k hh2 K2, K2.cell et id, K2.cell c.2.1 id, K2.cell c.1 id, holds_k hh1 K2, K2.cell ef id, K2.cell c.2.1 id, K2.cell c.1 id, ?_⟩
  refine agg_store (vs := e2 (G.nd (G.fr i))) o2 size_Node rfl (nn _) fun w3 o3 m3 _ => ?_
  have K3 : Keep w w3 := K2.fresh m3 fun k e => by rw [show k = w1.heap.size from e]; omega
  refine ⟨holds_k hh2 K3, K3.cell et id, K3.cell c.2.1 id, K3.cell c.1 id, ?_⟩
  have ne : w1.heap.size ≠ w.heap.size := by omega
  refine agg_store (vs := e2 (G.nd (G.to i))) ((o1.mod k2 id).mod m3 fun e => ne (by have e' : w.heap.size = w1.heap.size := e; omega)) size_Node rfl (nn _) fun w4 o4 m4 _ => ?_
  exact hJ _ _ w4 (o3.mod m4 ne) o4 (K3.fresh m4 fun k e => by rw [show k = w.heap.size from e]; exact Nat.le_refl _)
theorem RBend_i {g : GT} {G : Gr} {w : World} {a b : Int} {Q : Int → World → Prop} (h : GvIs w g G) (ok : OkG G) (ha : G.isE a) (hb : G.isE b) (hQ : ∀ w', Keep w w' → Q (G.bend a b) w') : F_ref4_Bend g a b w Q := by
 unfold F_ref4_Bend
 have r1 := OkG.way_rng ok ha
 have r2 := OkG.way_rng ok hb
 have nr : ∀ {i : Int}, G.isN i → (0 ≤ (G.nd i).1 ∧ (G.nd i).1 ≤ 4095) ∧ 0 ≤ (G.nd i).2 ∧ (G.nd i).2 ≤ 4095 := fun hi => ok.nd_rng hi
 have ea := ok.ed _ (G.ed_mem ha)
 have eb := ok.ed _ (G.ed_mem hb)
 have n1 := nr (show G.isN (G.fr a) from ea.1)
 have n2 := nr (show G.isN (G.to a) from ea.2.1)
 have n3 := nr (show G.isN (G.fr b) from eb.1)
 have n4 := nr (show G.isN (G.to b) from eb.2.1)
 refine alloc_i fun w1 o1 k1 z1 => ?_
 have og : ∀ {wx : World}, Keep w1 wx → Own wx w.heap.size tAGraph (gcs g) := fun kx => o1.mod kx id
 refine ldN_i (l := [.slice, .slice, .slice]) g (own_g (g := g) (og (Mod.refl _ _))) ?_
 refine REdge_i (h.keep k1) ok fun w2 k2 => ?_
 rw [decide_eq_true ha]
 refine cond_i (fun h => by simp at h) (fun _ => ?_)
 refine ldN_i (l := [.slice, .slice, .slice]) g (own_g (g := g) (og k2)) ?_
 refine REdge_i (h.keep (k1.tr k2)) ok fun w3 k3 => ?_
 rw [decide_eq_true hb]
 refine cond_i (fun h => by simp at h) (fun _ => ?_)
 have d3 : Keep w3 w3.drew := Mod.drew (Mod.refl _ w3)
 have K3 := (k2.tr k3).tr d3
 intro J1 hJ1
 refine pair_i (h.keep (k1.tr K3)) ok (og K3) ha fun x y w4 ox oy k4 => ?_
 apply hJ1
 have d4 : Keep w4 w4.drew := Mod.drew (Mod.refl _ w4)
 have K4 := (K3.tr k4).tr d4
 intro J2 hJ2
 refine pair_i (h.keep (k1.tr K4)) ok (og K4) hb fun x' y' w5 ox' oy' k5 => ?_
 apply hJ2
 have kk := d4.tr k5
 have cx := own2 (ox.mod kk id)
 have cy := own2 (oy.mod kk id)
 have cx' := own2 ox'
 have cy' := own2 oy'
 refine onSome_i rfl (ld1_i (k := .int .i64) (G.nd (G.to a)).1 cy.1 (onSome_i rfl (ld1_i (k := .int .i64) (G.nd (G.fr a)).1 cx.1 (onSome_i rfl (ld1_i (k := .int .i64) (G.nd (G.to a)).2 cy.2 (onSome_i rfl (ld1_i (k := .int .i64) (G.nd (G.fr a)).2 cx.2 ?_)))))))
 refine onSome_i rfl (ld1_i (k := .int .i64) (G.nd (G.to b)).1 cy'.1 (onSome_i rfl (ld1_i (k := .int .i64) (G.nd (G.fr b)).1 cx'.1 (onSome_i rfl (ld1_i (k := .int .i64) (G.nd (G.to b)).2 cy'.2 (onSome_i rfl (ld1_i (k := .int .i64) (G.nd (G.fr b)).2 cx'.2 ?_)))))))
 rw [w64 (n := (G.nd (G.to a)).1 - (G.nd (G.fr a)).1) (by omega) (by omega), w64 (n := (G.nd (G.to a)).2 - (G.nd (G.fr a)).2) (by omega) (by omega), w64 (n := (G.nd (G.to b)).1 - (G.nd (G.fr b)).1) (by omega) (by omega), w64 (n := (G.nd (G.to b)).2 - (G.nd (G.fr b)).2) (by omega) (by omega)]
 exact RClass_i r1.1 r1.2 r2.1 r2.2 fun w6 k6 => hQ w6 (((k1.tr K4).tr k5).tr k6)
end Go.Proofs.YtjjgcimlmjnaeaaGreat

namespace Go.Proofs.YtjjgcimlmjnaeaaGreat
open Go Go.Den
abbrev MX := MsgP × Sl
abbrev eMX (x : MX) : List Value := [.int .i64 x.1.kind, .int .i64 x.1.pos, .int .i64 x.1.dest, sv x.2, .int .i64 x.1.weight, .int .i64 x.1.hint.cls, .int .i64 x.1.hint.edge, .int .i64 x.1.hint.far, .int .i64 x.1.hint.left]
abbrev MT := Int × Int × Int × Sl × Int × Int × Int × Int × Int × Unit
abbrev mTup (x : MX) : MT := (x.1.kind, x.1.pos, x.1.dest, x.2, x.1.weight, x.1.hint.cls, x.1.hint.edge, x.1.hint.far, x.1.hint.left, ())
abbrev kMX : List CK := [.int .i64, .int .i64, .int .i64, .slice, .int .i64, .int .i64, .int .i64, .int .i64, .int .i64]
theorem lenMX : ∀ x : MX, (eMX x).length = 9 := fun _ => rfl
theorem oneMX : ∀ x : MX, ∀ u ∈ eMX x, u.oneCell' = true := by intro x u hu; simp at hu; rcases hu with rfl | rfl | rfl | rfl | rfl | rfl | rfl | rfl | rfl <;> rfl
theorem eMX_ne (x : MX) : eMX x ≠ [] := by simp
theorem own_at {w : World} {g k : Nat} {e : TypeId} {cs : List Value} {v : Value} (h : Own w g e cs) (hk : cs[k]? = some v) : w.cell? ((⟨g, 0, none⟩ : Addr).add k) = some v := by
 rw [addr_lit, Nat.zero_add, h.cell]; exact hk
structure MsgX (w : World) (P : Nat → Prop) (x : MX) : Prop where
 rd : Rd w x.2 1 eI x.1.edges
 blk : ∀ b, x.2.b = some b → P b.block ∧ b.block < w.heap.size
 len : x.1.edges.length ≤ 51
def MsgsIs (w : World) (P : Nat → Prop) (s : Sl) (l : List MsgP) : Prop := ∃ xs : List MX, Rd w s 9 eMX xs ∧ xs.map (·.1) = l ∧ (∀ b, s.b = some b → P b.block ∧ b.block < w.heap.size) ∧ ∀ x ∈ xs, MsgX w P x
theorem MsgX.mod {w w' : World} {P F : Nat → Prop} {x : MX} (h : MsgX w P x) (m : Mod F w w') (hF : ∀ k, P k → ¬ F k) : MsgX w' P x :=
 ⟨h.rd.mod m eI_ne fun b hb => hF _ (h.blk b hb).1, fun b hb => ⟨(h.blk b hb).1, Nat.lt_of_lt_of_le (h.blk b hb).2 m.size⟩, h.len⟩
theorem MsgX.wk {w : World} {P P' : Nat → Prop} {x : MX} (h : MsgX w P x) (hP : ∀ k, P k → k < w.heap.size → P' k) : MsgX w P' x :=
 ⟨h.rd, fun b hb => ⟨hP _ (h.blk b hb).1 (h.blk b hb).2, (h.blk b hb).2⟩, h.len⟩
theorem MsgX.none {w : World} {P : Nat → Prop} {p : MsgP} (h : p.edges = []) : MsgX w P (p, ⟨none, 0, 0⟩) :=
 ⟨by show Rd w _ 1 eI p.edges; rw [h]; exact Rd.nil _ _ _, fun b hb => (by cases hb), by show p.edges.length ≤ 51; rw [h]; simp⟩
section
variable {w w' : World} {P P' F : Nat → Prop} {s : Sl} {l : List MsgP}
theorem MsgsIs.mod (h : MsgsIs w P s l) (m : Mod F w w') (hF : ∀ k, P k → ¬ F k) : MsgsIs w' P s l := by
 obtain ⟨xs, h1, h2, h3, h4⟩ := h
 exact ⟨xs, h1.mod m eMX_ne fun b hb => hF _ (h3 b hb).1, h2, fun b hb => ⟨(h3 b hb).1, Nat.lt_of_lt_of_le (h3 b hb).2 m.size⟩, fun x hx => (h4 x hx).mod m hF⟩
theorem MsgsIs.wk (h : MsgsIs w P s l) (hP : ∀ k, P k → k < w.heap.size → P' k) : MsgsIs w P' s l := by
 obtain ⟨xs, h1, h2, h3, h4⟩ := h
 exact ⟨xs, h1, h2, fun b hb => ⟨hP _ (h3 b hb).1 (h3 b hb).2, (h3 b hb).2⟩, fun x hx => (h4 x hx).wk hP⟩
theorem MsgsIs.keep (h : MsgsIs w P s l) (k : Keep w w') : MsgsIs w' P s l := h.mod k fun _ _ => id
theorem MsgsIs.nil : MsgsIs w P ⟨none, 0, 0⟩ [] := ⟨[], Rd.nil _ _ _, rfl, fun b hb => (by cases hb), by simp⟩
theorem MsgsIs.len (h : MsgsIs w P s l) : s.l = l.length := by
 obtain ⟨xs, h1, h2, _⟩ := h
 rw [h1.len, ← h2, List.length_map]
theorem MsgsIs.one {g : Nat} {x : MX} (o : Own w g tMsg (eMX x)) (hx : MsgX w P x) (hg : P g) : MsgsIs w P ⟨some ⟨g, 0, none⟩, 1, 1⟩ [x.1] :=
 ⟨[x], (Vec.new lenMX [x] (by simpa using o) (by simp [maxLen])).rd lenMX, rfl, fun b hb => by cases hb; exact ⟨hg, o.lt⟩, by simpa using hx⟩
theorem MsgsIs.get (h : MsgsIs w P s l) {i : Nat} {p : MsgP} (hp : l[i]? = some p) : ∃ a sl, s.b = some a ∧ MsgX w P (p, sl) ∧ HoldsAt w (a.add (i * 9)) 0 (encs kMX (mTup (p, sl))) ∧ ∀ k v, (eMX (p, sl))[k]? = some v → w.cell? ((a.add (i * 9)).add k) = some v := by
 obtain ⟨xs, h1, h2, h3, h4⟩ := h
 rw [← h2, List.getElem?_map] at hp
 cases hx : xs[i]? with
 | none => rw [hx] at hp; cases hp
 | some x =>
  rw [hx] at hp
  obtain ⟨p', sl⟩ := x
  cases hp
  obtain ⟨a, ha, hh⟩ := h1.get i _ hx
  exact ⟨a, sl, ha, h4 _ (List.mem_of_getElem? hx), hh, fun k v hv => by have := holds_iff.1 hh k v hv; rwa [Nat.zero_add] at this⟩
theorem msgs_app {g : Nat} {x : MX} {K : Sl → World → Prop} (o : Own w g tMsg (eMX x)) (hx : MsgX w (fun k => P k ∧ k ≠ g) x) (hg : P g) (hn : ∀ k, w.heap.size ≤ k → P k) (hs : MsgsIs w (fun k => P k ∧ k ≠ g) s l) (hl : l.length ≤ 10)
  (hK : ∀ r w', MsgsIs w' P r (x.1 :: l) → Mod (fun k => k = g) w w' → K r w') : appendD Tryz.prog tsMsg tsMsg ⟨some ⟨g, 0, none⟩, 1, 1⟩ (Value.slice s.b s.l s.c) w K := by
 obtain ⟨xs, h1, h2, h3, h4⟩ := hs
 have hxl : xs.length = l.length := by rw [← h2, List.length_map]
 refine append_i elem_sMsg lenMX oneMX (Vec.new lenMX [x] (by simpa using o) (by simp [maxLen])) h1 (by simp; omega) (by simp; omega) fun r w' hr hm hrb hrn => ?_
 have m : Mod (fun k => k = g) w w' := hm.mono fun k _ ⟨a, ha, hk⟩ => by cases ha; exact hk
 refine hK r w' ⟨[x] ++ xs, hr.rd lenMX, by rw [List.map_append, h2]; rfl, fun b hb => ⟨?_, hr.lt hb⟩, fun y hy => ?_⟩ m
 ·rcases hrb with e | ⟨a, ha, hle⟩
  ·rw [hb] at e; cases e; exact hg
  ·rw [hb] at ha; cases ha; exact hn _ hle
 ·have hy' : MsgX w (fun k => P k ∧ k ≠ g) y := by
   rcases List.mem_append.1 hy with hy | hy
   ·rw [List.mem_singleton.1 hy]; exact hx
   ·exact h4 y hy
  exact (hy'.mod m fun k hk e => hk.2 e).wk fun k hk _ => hk.1
end
end Go.Proofs.YtjjgcimlmjnaeaaGreat

namespace Go.Proofs.YtjjgcimlmjnaeaaGreat
open Go Go.Den
section
variable {w : World} {g : GT} {G : Gr}
theorem RHint_i {a : Int} {es : Sl} {l : List Int} {Q : (Int × Int × Int × Int × Unit) → Bool → World → Prop} (h : GvIs w g G) (ok : OkG G) (ha : G.isE a) (hw : G.walkB a l = true) (hr : Rd w es 1 eI l) (hl : l.length ≤ 100000) (hQ : ∀ w', Keep w w' → Q (hTup (G.hint a l)) true w') :
  F_ref4_Hint g a es w Q := by
 unfold F_ref4_Hint
 have hm := ok.m1
 have hE := walk_isE hw
 have hll := hr.len
 have gl : g.2.1.l = G.m := h.ed.len
 have lit : ∀ b k : Nat, ((⟨b, 0, none⟩ : Addr).add k) = ⟨b, k, none⟩ := fun b k => by rw [addr_lit, Nat.zero_add]
 refine alloc_i fun w1 o1 k1 z1 => alloc_i fun w2 o2 k2 z2 => ?_
 have og : ∀ {wx : World}, Keep w1 wx → Own wx w.heap.size tAGraph (gcs g) := fun kx => o1.mod kx id
 have o2' : Own w2 w1.heap.size tHint (eH ⟨0, 0, 0, 0⟩) := o2
 have K2 := k1.tr k2
 refine ldN_i (l := [.slice, .slice, .slice]) g (own_g (g := g) (og k2)) ?_
 refine RWalk_i (h.keep K2) ok (hr.mod K2 eI_ne fun _ _ => id) hl fun w3 k3 => ?_
 rw [decide_eq_true ha, hw]
 refine cond_i (fun h => by simp at h) (fun _ => ?_)
 refine alloc_i fun w5 o5 k5 z5 => ?_
 have o5' : Own w5 w3.heap.size tHint (eH ⟨0, 0, 0, 0⟩) := o5
 have K5 := (K2.tr k3).tr k5
 have K15 := (k2.tr k3).tr k5
 refine ldN_i (l := [.slice, .slice, .slice]) g (own_g (g := g) (og K15)) ?_
 refine RWeight_i (h.keep K5) ok (hr.mod K5 eI_ne fun _ _ => id) hl hE fun w6 k6 => ?_
 rw [lit w3.heap.size 3, lit w3.heap.size 0, lit w3.heap.size 1, lit w3.heap.size 2]
 refine storeD1_i (o := 3) (v := .int .i64 (G.wsum l)) (o5'.mod k6 id) size_Int (by simp) rfl rfl fun w7 o7 m7 z7 => ?_
 have s23 : w1.heap.size < w3.heap.size := by have := k3.size; omega
 have up : ∀ {wx wy : World}, Keep w wx → Mod (fun k => k = w3.heap.size) wx wy → Keep w wy := fun kx m => kx.fresh m fun k e => by rw [show k = w3.heap.size from e]; omega
 have up1 : ∀ {wx wy : World}, Keep w1 wx → Mod (fun k => k = w3.heap.size) wx wy → Keep w1 wy := fun kx m => kx.fresh m fun k e => by rw [show k = w3.heap.size from e]; omega
 have up2 : ∀ {wx wy : World}, Keep w2 wx → Mod (fun k => k = w3.heap.size) wx wy → Keep w2 wy := fun kx m => kx.fresh m fun k e => by rw [show k = w3.heap.size from e]; omega
 have K7 := up2 ((k3.tr k5).tr k6) m7
 have o7' : Own w7 w3.heap.size tHint (eH ⟨0, 0, 0, G.wsum l⟩) := o7
 have fin : ∀ w4 (f : HintP), Own w4 w3.heap.size tHint (eH f) → Keep w2 w4 → f = G.hint a l → ldN [.int .i64, .int .i64, .int .i64, .int .i64] w4 ⟨w3.heap.size, 0, none⟩ fun (t2 : Int × Int × Int × Int × Unit) =>
   storeD Tryz.prog tHint ⟨w1.heap.size, 0, none⟩ (Value.agg #[(Value.int .i64 t2.1), (Value.int .i64 t2.2.1), (Value.int .i64 t2.2.2.1), (Value.int .i64 t2.2.2.2.1)]) w4 fun w9 => ldN [.int .i64, .int .i64, .int .i64, .int .i64] w9 ⟨w1.heap.size, 0, none⟩ fun (t3 : Int × Int × Int × Int × Unit) => Q (t3.1, t3.2.1, t3.2.2.1, t3.2.2.2.1, ()) true w9 := by
  intro w4 f o4 k4 hf
  refine ldN_i (l := [.int .i64, .int .i64, .int .i64, .int .i64]) (hTup f) (own_h o4) ?_
  refine agg_store (vs := eH f) (o2'.mod k4 id) size_Hint rfl (oneH f) fun w5 o5 m5 _ => ?_
  refine ldN_i (l := [.int .i64, .int .i64, .int .i64, .int .i64]) (hTup f) (own_h o5) ?_
  rw [hf]
  exact hQ w5 ((K2.tr k4).fresh m5 fun k e => by rw [show k = w1.heap.size from e]; omega)
 refine loop_i (fun c s w4 => ∃ (i : Nat) (b : Int), i ≤ l.length ∧ c = l.length - i ∧ s = (b, (i : Int), ()) ∧ Keep w2 w4 ∧ G.isE b ∧ G.walkB b (l.drop i) = true ∧ Own w4 w3.heap.size tHint (eH ⟨0, 0, G.wsum (l.take i), G.wsum l⟩) ∧
  G.hintF a l = ((G.hintF b (l.drop i)).1, (G.hintF b (l.drop i)).2.1, G.wsum (l.take i) + (G.hintF b (l.drop i)).2.2)) l.length ⟨0, a, Nat.zero_le _, rfl, rfl, K7, ha, by simpa using hw, o7', by simp [Gr.wsum]⟩ ?_
 rintro c s w4 ⟨i, b, hi, rfl, rfl, k4, hb, hwb, o4, hh⟩ X hX
 dsimp only
 have h4 := h.keep (K2.tr k4)
 refine cond_d (fun hlt => ?_) (fun hge => ?_)
 ·have hi' : i < l.length := by omega
  have hget := List.getElem?_eq_getElem hi'
  have htake := wsum_take (G := G) hget
  have hrng := wsum_rng ok (l := l.take i) fun x hx => hE x (List.mem_of_mem_take hx)
  have hlt' : (l.take i).length = i := by rw [List.length_take]; omega
  rw [List.drop_eq_getElem_cons hi'] at hwb hh
  generalize l[i] = x at *
  simp only [Gr.walkB, Bool.and_eq_true] at hwb
  have hxE := (Gr.turn_iff.1 hwb.1).2.1
  have hwx := ok.w1 hxE
  rw [Int.toNat_natCast]
  refine ldN_i (l := [.slice, .slice, .slice]) g (own_g (g := g) (og (k2.tr k4))) ?_
  refine RNext_i h4 ok fun s1 w9 v9 k9 _ => ?_
  have k29 := k4.tr k9
  have o9 := o4.mod k9 id
  have sl := v9.len
  have rdx : ∀ {wx : World}, Keep w2 wx → ∃ p, es.b = some p ∧ wx.cell? (p.add (i * 1)) = some (.int .i64 x) := fun kx => rd_cell (k := .int .i64) (e := fun x => x) (hr.mod (K2.tr kx) eI_ne fun _ _ => id) hget
  refine cond_i (fun hne => ?_) (fun heq => ?_)
  ·have hne' : (G.nextL b).length ≠ 1 := by
    intro e; rw [sl, e] at hne; simp at hne
   rw [show G.hintF b (x :: l.drop (i + 1)) = (G.bend b x, x, 0) by simp only [Gr.hintF]; rw [if_pos hne']] at hh
   have d9 : Keep w9 w9.drew := Mod.drew (Mod.refl _ w9)
   have k29d := k29.tr d9
   refine ldN_i (l := [.slice, .slice, .slice]) g (own_g (g := g) (og (k2.tr k29d))) ?_
   obtain ⟨p, hp, hc⟩ := rdx k29d
   refine ⟨⟨by omega, hlt⟩, onSome_i hp (ld1_i (k := .int .i64) x hc ⟨⟨by omega, hlt⟩, onSome_i hp (ld1_i (k := .int .i64) x hc ?_)⟩)⟩
   refine RBend_i (h.keep (K2.tr k29d)) ok hb hxE fun w10 k10 => ?_
   refine ⟨k10.cell hc id, ?_⟩
   refine storeD1_i (o := 0) (v := .int .i64 (G.bend b x)) ((o9.mod d9 id).mod k10 id) size_Int (by simp) rfl rfl fun w11 o11 m11 _ => ?_
   have k211 := up2 (k29d.tr k10) m11
   obtain ⟨p', hp', hc'⟩ := rdx k211
   have ep : p' = p := by rw [hp] at hp'; cases hp'; rfl
   subst ep
   refine ⟨hc', ?_⟩
   refine storeD1_i (o := 1) (v := .int .i64 x) o11 size_Int (by simp) rfl rfl fun w12 o12 m12 _ => ?_
   refine fin w12 ⟨G.bend b x, x, G.wsum (l.take i), G.wsum l⟩ o12 (up2 k211 m12) ?_
   unfold Gr.hint
   rw [hh]
   simp
  ·have heq' : (G.nextL b).length = 1 := by rw [sl] at heq; simp at heq; omega
   rw [show G.hintF b (x :: l.drop (i + 1)) = ((G.hintF x (l.drop (i + 1))).1, (G.hintF x (l.drop (i + 1))).2.1, G.wt x + (G.hintF x (l.drop (i + 1))).2.2) by rw [Gr.hintF, if_neg (by simp [heq'])]] at hh
   obtain ⟨p, hp, hc⟩ := rdx k29
   refine ⟨⟨by omega, hlt⟩, onSome_i hp (ld1_i (k := .int .i64) x hc ?_)⟩
   have d9 : Keep w9 w9.drew := Mod.drew (Mod.refl _ w9)
   have k29d := k29.tr d9
   have o9d := o9.mod d9 id
   have c2 : w9.drew.cell? ⟨w3.heap.size, 2, none⟩ = some (.int .i64 (G.wsum (l.take i))) := by rw [o9d.cell]; rfl
   refine ld1_i (k := .int .i64) _ c2 (ld1_i (k := .slice) g.2.1 (own3 (og (k2.tr k29d))).2.1 ?_)
   obtain ⟨pe, hpe, _, _, _, cw⟩ := (h.keep (K2.tr k29d)).edge hxE
   refine ⟨⟨hxE.1, by rw [gl]; exact hxE.2⟩, onSome_i hpe (ld1_i (k := .int .i64) (G.wt x) cw ?_)⟩
   rw [w64 (n := G.wsum (l.take i) + G.wt x) (by omega) (by omega), wi_ i (by omega)]
   refine storeD1_i (o := 2) (v := .int .i64 (G.wsum (l.take i) + G.wt x)) o9d size_Int (by simp) rfl rfl fun w13 o13 m13 _ => ?_
   refine hX _ _ _ (by omega) ⟨i + 1, x, hi', rfl, rfl, up2 k29d m13, hxE, hwb.2, ?_, ?_⟩
   ·rw [htake]; exact o13
   ·rw [hh, htake]; simp only [Prod.mk.injEq, true_and]; omega
 ·have ei : i = l.length := by omega
  subst ei
  refine storeD1_i (o := 0) (v := .int .i64 9) o4 size_Int (by simp) rfl rfl fun w7 o7 m7 _ => ?_
  refine storeD1_i (o := 1) (v := .int .i64 (-1)) o7 size_Int (by simp) rfl rfl fun w8 o8 m8 _ => ?_
  refine fin w8 ⟨9, -1, G.wsum (l.take l.length), G.wsum l⟩ o8 (up2 (up2 k4 m7) m8) ?_
  unfold Gr.hint
  rw [hh, List.drop_length]
  simp [Gr.hintF]
end
abbrev eRSe (g : GT) (p : Ses) (sl : Sl) : List Value := [sv g.1, sv g.2.1, sv g.2.2.1, .int .i64 p.pos, .int .i64 p.node, sv sl, .bool p.has, .bool p.over]
structure RSesAt (F : Nat → Prop) (W0 w : World) (s : Nat) (g : GT) (G : Gr) (p : Ses) : Prop where
 gv : GvIs W0 g G
 gok : OkG G
 k0 : Keep W0 w
 lo : W0.heap.size ≤ s
 own : ∃ sl, Own w s tRSess (eRSe g p sl) ∧ Rd w sl 1 eI p.way ∧ ∀ b, sl.b = some b → ¬ F b.block ∧ b.block < w.heap.size
 fs : F s
section
variable {F F' : Nat → Prop} {W0 w w' : World} {s : Nat} {g : GT} {G : Gr} {p : Ses}
theorem RSesAt.e (h : RSesAt F W0 w s g G p) : GvIs w g G := h.gv.keep h.k0
theorem RSesAt.mod {M : Nat → Prop} (h : RSesAt F W0 w s g G p) (m : Mod M w w') (hM : ∀ k, M k → k ≠ s ∧ (F k ∨ w.heap.size ≤ k) ∧ W0.heap.size ≤ k) : RSesAt F W0 w' s g G p := by
 obtain ⟨sl, h1, h2, h3⟩ := h.own
 refine ⟨h.gv, h.gok, h.k0.fresh m fun k hk => (hM k hk).2.2, h.lo, ⟨sl, h1.mod m fun hs => (hM s hs).1 rfl, h2.mod m eI_ne fun b hb hm => ?_, fun b hb => ⟨(h3 b hb).1, Nat.lt_of_lt_of_le (h3 b hb).2 m.size⟩⟩, h.fs⟩
 rcases (hM _ hm).2.1 with hf | hf
 ·exact (h3 b hb).1 hf
 ·have := (h3 b hb).2; omega
theorem RSesAt.keep (h : RSesAt F W0 w s g G p) (k : Keep w w') : RSesAt F W0 w' s g G p := h.mod k fun _ hk => hk.elim
theorem RSesAt.more (h : RSesAt F W0 w s g G p) (hF : ∀ k, F' k → F k ∨ w.heap.size ≤ k) (hs : F' s) : RSesAt F' W0 w s g G p := by
 obtain ⟨sl, h1, h2, h3⟩ := h.own
 refine ⟨h.gv, h.gok, h.k0, h.lo, ⟨sl, h1, h2, fun b hb => ⟨fun hf => ?_, (h3 b hb).2⟩⟩, hs⟩
 rcases hF _ hf with hf | hf
 ·exact (h3 b hb).1 hf
 ·have := (h3 b hb).2; omega
theorem RSesAt.lt (h : RSesAt F W0 w s g G p) : s < w.heap.size := by obtain ⟨sl, h1, _⟩ := h.own; exact h1.lt
theorem RSesAt.put {sl : Sl} {q : Ses} (h : RSesAt F W0 w s g G p) (m : Mod (fun k => k = s) w w') (o : Own w' s tRSess (eRSe g q sl)) (hr : Rd w' sl 1 eI q.way) (hb : ∀ b, sl.b = some b → ¬ F b.block ∧ b.block < w'.heap.size) : RSesAt F W0 w' s g G q :=
 ⟨h.gv, h.gok, h.k0.fresh m fun k e => by rw [show k = s from e]; exact h.lo, h.lo, ⟨sl, o, hr, hb⟩, h.fs⟩
theorem RSesAt.cell (h : RSesAt F W0 w s g G p) : ∃ sl, Own w s tRSess (eRSe g p sl) ∧ Rd w sl 1 eI p.way ∧ (∀ b, sl.b = some b → ¬ F b.block ∧ b.block < w.heap.size) ∧
  HoldsAt w ((⟨s, 0, none⟩ : Addr).add 0) 0 (encs [.slice, .slice, .slice] g) ∧ w.cell? (((⟨s, 0, none⟩ : Addr).add 0).add 1) = some (sv g.2.1) ∧ w.cell? ((⟨s, 0, none⟩ : Addr).add 3) = some (.int .i64 p.pos) ∧ w.cell? ((⟨s, 0, none⟩ : Addr).add 4) = some (.int .i64 p.node) ∧
  w.cell? ((⟨s, 0, none⟩ : Addr).add 5) = some (sv sl) ∧ w.cell? ((⟨s, 0, none⟩ : Addr).add 6) = some (.bool p.has) ∧ w.cell? ((⟨s, 0, none⟩ : Addr).add 7) = some (.bool p.over) := by
 obtain ⟨sl, h1, h2, h3⟩ := h.own
 refine ⟨sl, h1, h2, h3, ?_, by rw [add_zero]; exact own_at h1 rfl, own_at h1 rfl, own_at h1 rfl, own_at h1 rfl, own_at h1 rfl, own_at h1 rfl⟩
 rw [add_zero]
 refine h1.holds fun j v hj => ?_
 match j, hj with
 | 0, hj => exact hj
 | 1, hj => exact hj
 | 2, hj => exact hj
 | _ + 3, hj => cases hj
theorem rhint_i {Q : Sl → World → Prop} (h : RSesAt F W0 w s g G p) (okS : OkS G p) (hh : p.has = true) (hQ : ∀ ms w', RSesAt F W0 w' s g G (hintS G p).1 → MsgsIs w' (fun k => w.heap.size ≤ k) ms (hintS G p).2 → (hintS G p).2.length = 1 → Mod (fun k => k = s) w w' → Q ms w') :
  F_rS_hint (some ⟨s, 0, none⟩) w Q := by
 unfold F_rS_hint
 have slt := h.lt
 have gl : g.2.1.l = G.m := h.gv.ed.len
 have d1 : Keep w w.drew := Mod.drew (Mod.refl _ w)
 have hd := h.keep d1
 obtain ⟨sl, o, hr, hb, cg, c1, c3, c4, c5, c6, c7⟩ := hd.cell
 obtain ⟨pe, hpe, _, _, ct, _⟩ := hd.e.edge okS.pos
 refine onSome_i rfl (ld1_i (k := .slice) g.2.1 c1 (onSome_i rfl (ld1_i (k := .int .i64) p.pos c3 ⟨⟨okS.pos.1, by rw [gl]; exact okS.pos.2⟩, onSome_i hpe (ld1_i (k := .int .i64) (G.to p.pos) ct (onSome_i rfl (ld1_i (k := .int .i64) p.node c4 ?_)))⟩)))
 refine cond_i (fun he => ?_) (fun hne => ?_)
 ·have he' : G.to p.pos = p.node := by simpa using he
  refine onSome_i rfl ?_
  rw [addr_lit, Nat.zero_add]
  refine storeD1_i (o := 7) (v := .bool true) o size_Bool (by simp) rfl rfl fun w2 o2 m2 z2 => ?_
  have h2 : RSesAt F W0 w2 s g G { p with over := true } := hd.put m2 o2 (hr.mod m2 eI_ne fun b hb' e => (hb b hb').1 (by rw [show b.block = s from e]; exact h.fs)) fun b hb' => ⟨(hb b hb').1, by rw [z2]; exact (hb b hb').2⟩
  refine alloc_i fun w3 o3 k3 z3 => ?_
  have e : hintS G p = ({ p with over := true }, [mArrived]) := by unfold hintS; rw [if_pos he']
  rw [e] at hQ
  have M2 : Mod (fun k => k = s) w w2 := (d1.wk).tr m2
  have z := M2.size
  exact hQ _ w3 (h2.keep k3) (MsgsIs.one (x := (mArrived, ⟨none, 0, 0⟩)) o3 (MsgX.none rfl) z) rfl (M2.tr k3.wk)
 ·have hne' : ¬ G.to p.pos = p.node := by simpa using hne
  have e : hintS G p = (p, [mNext (G.hint p.pos p.way)]) := by unfold hintS; rw [if_neg hne']
  rw [e] at hQ
  have d2 : Keep w w.drew.drew := d1.tr (Mod.drew (Mod.refl _ _))
  have h2 := h.keep d2
  obtain ⟨sl, o, hr, hb, cg, c1, c3, c4, c5, c6, c7⟩ := h2.cell
  have len := okS.len
  refine onSome_i rfl (ldN_i (l := [.slice, .slice, .slice]) g cg (onSome_i rfl (ld1_i (k := .int .i64) p.pos c3 (onSome_i rfl (ld1_i (k := .slice) sl c5 ?_)))))
  refine ⟨?_, ?_⟩
  ·refine RHint_i h2.e h.gok okS.pos (okS.walk hh) hr (by omega) fun w4 k4 => ?_
   refine agg_new (vs := eH (G.hint p.pos p.way)) size_Hint rfl (oneH _) fun w6 o6 k6 _ => ?_
   refine ldN_i (l := [.int .i64, .int .i64, .int .i64, .int .i64]) (hTup (G.hint p.pos p.way)) (own_h o6) ?_
   refine alloc_i fun w7 o7 k7 z7 => ?_
   have K6 := (d2.tr k4).tr k6
   exact hQ _ w7 (h.keep (K6.tr k7)) (MsgsIs.one (x := (mNext (G.hint p.pos p.way), ⟨none, 0, 0⟩)) o7 (MsgX.none rfl) K6.size) rfl (K6.tr k7).wk
  ·refine alloc_i fun w8 o8 k8 z8 => ?_
   have o8' : Own w8 w.drew.drew.heap.size tHint (eH ⟨0, 0, 0, 0⟩) := o8
   refine ⟨k8.cell c5 id, k8.cell c3 id, holds_k cg k8, ?_⟩
   refine RHint_i (h2.keep k8).e h.gok okS.pos (okS.walk hh) (hr.mod k8 eI_ne fun _ _ => id) (by omega) fun w9 k9 => ?_
   refine agg_store (vs := eH (G.hint p.pos p.way)) (o8'.mod k9 id) size_Hint rfl (oneH _) fun w10 o10 m10 _ => ?_
   refine ldN_i (l := [.int .i64, .int .i64, .int .i64, .int .i64]) (hTup (G.hint p.pos p.way)) (own_h o10) ?_
   refine alloc_i fun w11 o11 k11 z11 => ?_
   have K10 : Keep w w10 := ((d2.tr k8).tr k9).fresh m10 fun k e => by rw [show k = w.drew.drew.heap.size from e]; exact d2.size
   exact hQ _ w11 (h.keep (K10.tr k11)) (MsgsIs.one (x := (mNext (G.hint p.pos p.way), ⟨none, 0, 0⟩)) o11 (MsgX.none rfl) K10.size) rfl (K10.tr k11).wk
end
end Go.Proofs.YtjjgcimlmjnaeaaGreat

namespace Go.Proofs.YtjjgcimlmjnaeaaGreat
open Go Go.Den
abbrev eSe (e : Nat) (p : Ses) (sl : Sl) : List Value := [.pointer (some ⟨e, 0, none⟩), .int .i64 p.pos, .int .i64 p.node, sv sl, .bool p.has, .bool p.over]
structure SesAt (F : Nat → Prop) (W0 w : World) (s : Nat) (E : EngS) (G : Gr) (p : Ses) : Prop where
 eng : EngIs W0 E G
 k0 : Keep W0 w
 lo : W0.heap.size ≤ s
 own : ∃ sl, Own w s tSess (eSe E.e p sl) ∧ Rd w sl 1 eI p.way ∧ ∀ b, sl.b = some b → ¬ F b.block ∧ b.block < w.heap.size
 fs : F s
section
variable {F F' : Nat → Prop} {W0 w w' : World} {s : Nat} {E : EngS} {G : Gr} {p : Ses}
theorem SesAt.e (h : SesAt F W0 w s E G p) : EngIs w E G := h.eng.keep h.k0
theorem SesAt.mod {M : Nat → Prop} (h : SesAt F W0 w s E G p) (m : Mod M w w') (hM : ∀ k, M k → k ≠ s ∧ (F k ∨ w.heap.size ≤ k) ∧ W0.heap.size ≤ k) : SesAt F W0 w' s E G p := by
 obtain ⟨sl, h1, h2, h3⟩ := h.own
 refine ⟨h.eng, h.k0.fresh m fun k hk => (hM k hk).2.2, h.lo, ⟨sl, h1.mod m fun hs => (hM s hs).1 rfl, h2.mod m eI_ne fun b hb hm => ?_, fun b hb => ⟨(h3 b hb).1, Nat.lt_of_lt_of_le (h3 b hb).2 m.size⟩⟩, h.fs⟩
 rcases (hM _ hm).2.1 with hf | hf
 ·exact (h3 b hb).1 hf
 ·have := (h3 b hb).2; omega
theorem SesAt.keep (h : SesAt F W0 w s E G p) (k : Keep w w') : SesAt F W0 w' s E G p := h.mod k fun _ hk => hk.elim
theorem SesAt.more (h : SesAt F W0 w s E G p) (hF : ∀ k, F' k → F k ∨ w.heap.size ≤ k) (hs : F' s) : SesAt F' W0 w s E G p := by
 obtain ⟨sl, h1, h2, h3⟩ := h.own
 refine ⟨h.eng, h.k0, h.lo, ⟨sl, h1, h2, fun b hb => ⟨fun hf => ?_, (h3 b hb).2⟩⟩, hs⟩
 rcases hF _ hf with hf | hf
 ·exact (h3 b hb).1 hf
 ·have := (h3 b hb).2; omega
theorem SesAt.lt (h : SesAt F W0 w s E G p) : s < w.heap.size := by obtain ⟨sl, h1, _⟩ := h.own; exact h1.lt
theorem SesAt.put {sl : Sl} {q : Ses} (h : SesAt F W0 w s E G p) (m : Mod (fun k => k = s) w w') (o : Own w' s tSess (eSe E.e q sl)) (hr : Rd w' sl 1 eI q.way) (hb : ∀ b, sl.b = some b → ¬ F b.block ∧ b.block < w'.heap.size) : SesAt F W0 w' s E G q :=
 ⟨h.eng, h.k0.fresh m fun k e => by rw [show k = s from e]; exact h.lo, h.lo, ⟨sl, o, hr, hb⟩, h.fs⟩
theorem SesAt.cell (h : SesAt F W0 w s E G p) : w.cell? ((⟨s, 0, none⟩ : Addr).add 0) = some (.pointer (some ⟨E.e, 0, none⟩)) ∧ w.cell? ((⟨s, 0, none⟩ : Addr).add 1) = some (.int .i64 p.pos) ∧ w.cell? ((⟨s, 0, none⟩ : Addr).add 2) = some (.int .i64 p.node) ∧
  w.cell? ((⟨s, 0, none⟩ : Addr).add 4) = some (.bool p.has) ∧ w.cell? ((⟨s, 0, none⟩ : Addr).add 5) = some (.bool p.over) ∧
  ∃ sl, Own w s tSess (eSe E.e p sl) ∧ w.cell? ((⟨s, 0, none⟩ : Addr).add 3) = some (sv sl) ∧ Rd w sl 1 eI p.way ∧ ∀ b, sl.b = some b → ¬ F b.block ∧ b.block < w.heap.size := by
 obtain ⟨sl, h1, h2, h3⟩ := h.own
 exact ⟨own_at h1 rfl, own_at h1 rfl, own_at h1 rfl, own_at h1 rfl, own_at h1 rfl, sl, h1, own_at h1 rfl, h2, h3⟩
theorem Done_i {Q : Bool → World → Prop} (h : SesAt F W0 w s E G p) (hQ : Q p.over w) : F_sS_Done (some ⟨s, 0, none⟩) w Q := by
 unfold F_sS_Done
 exact cond_i (fun h => by simp at h) (fun _ => onSome_i rfl (ld1_i (k := .bool) p.over h.cell.2.2.2.2.1 hQ))
theorem At_i {Q : Int → World → Prop} (h : SesAt F W0 w s E G p) (hQ : Q p.pos w) : F_sS_At (some ⟨s, 0, none⟩) w Q := by
 unfold F_sS_At
 exact cond_i (fun h => by simp at h) (fun _ => onSome_i rfl (ld1_i (k := .int .i64) p.pos h.cell.2.1 hQ))
theorem Left_i {Q : Sl → Bool → World → Prop} (h : SesAt F W0 w s E G p) (hl : p.way.length ≤ 51) (hn : p.has = false → p.way = []) (hQ : ∀ r w', Vec w' tInt 1 eI r p.way → Keep w w' → (∀ b, r.b = some b → w.heap.size ≤ b.block) → Q r p.has w') : F_sS_Left (some ⟨s, 0, none⟩) w Q := by
 unfold F_sS_Left
 obtain ⟨_, _, _, c4, _, sl, _, c3, hr, _⟩ := h.cell
 refine cond_i (fun h => by simp at h) (fun _ => onSome_i rfl (ld1_i (k := .bool) p.has c4 (cond_i (fun hb => ?_) (fun hb => ?_))))
 ·have hf : p.has = false := by simpa using hb
  have := hQ ⟨none, 0, 0⟩ w (by rw [hn hf]; exact Vec.nil _ _ _ _) (Mod.refl _ _) (fun b hb => by cases hb)
  rw [hf] at this; exact this
 ·have ht : p.has = true := by simpa using hb
  refine onSome_i rfl (ld1_i (k := .slice) sl c3 (CloneI_i hr (by omega) fun r w1 v1 k1 f1 => ?_))
  have := hQ r w1 v1 k1 f1
  rw [ht] at this; exact this
theorem shint_i {Q : Sl → World → Prop} (h : SesAt F W0 w s E G p) (ok : OkS G p) (hh : p.has = true) (hQ : ∀ ms w', SesAt F W0 w' s E G (hintS G p).1 → MsgsIs w' (fun k => w.heap.size ≤ k) ms (hintS G p).2 → (hintS G p).2.length = 1 → Mod (fun k => k = s) w w' → Q ms w') :
  F_sS_hint (some ⟨s, 0, none⟩) w Q := by
 unfold F_sS_hint
 intro J1 hJ1
 have slt := h.lt
 have core : ∀ a w1, w1.cell? (a.add 1) = some (.int .i64 (G.to p.pos)) → Keep w w1 → J1 (some a, ()) w1 := by
  intro a w1 c1 k1
  apply hJ1
  have d1 : Keep w1 w1.drew := Mod.drew (Mod.refl _ w1)
  have hd := h.keep (k1.tr d1)
  refine onSome_i rfl (ld1_i (k := .int .i64) (G.to p.pos) (d1.cell c1 id) (onSome_i rfl (ld1_i (k := .int .i64) p.node hd.cell.2.2.1 ?_)))
  refine cond_i (fun he => ?_) (fun hne => ?_)
  ·have he' : G.to p.pos = p.node := by simpa using he
   obtain ⟨sl, o, hr, hb⟩ := hd.own
   refine onSome_i rfl ?_
   rw [addr_lit, Nat.zero_add]
   refine storeD1_i (o := 5) (v := .bool true) o size_Bool (by simp) rfl rfl fun w2 o2 m2 z2 => ?_
   have h2 : SesAt F W0 w2 s E G { p with over := true } := hd.put m2 o2 (hr.mod m2 eI_ne fun b hb' e => (hb b hb').1 (by rw [show b.block = s from e]; exact h.fs)) fun b hb' => ⟨(hb b hb').1, by rw [z2]; exact (hb b hb').2⟩
   refine alloc_i fun w3 o3 k3 z3 => ?_
   have e : hintS G p = ({ p with over := true }, [mArrived]) := by unfold hintS; rw [if_pos he']
   rw [e] at hQ
   have M2 : Mod (fun k => k = s) w w2 := (Keep.mod (k1.tr d1)).tr m2
   have z := M2.size
   exact hQ _ w3 (h2.keep k3) (MsgsIs.one (x := (mArrived, ⟨none, 0, 0⟩)) o3 (MsgX.none rfl) z) rfl (M2.tr k3.wk)
  ·have hne' : ¬ G.to p.pos = p.node := by simpa using hne
   have e : hintS G p = (p, [mNext (G.hint p.pos p.way)]) := by unfold hintS; rw [if_neg hne']
   rw [e] at hQ
   have d2 : Keep w1 w1.drew.drew := d1.tr (Mod.drew (Mod.refl _ _))
   have h2 := h.keep (k1.tr d2)
   obtain ⟨c0, c1', _, _, _, sl, _, c3, hr, _⟩ := h2.cell
   have he2 := h2.e
   refine onSome_i rfl (ld1_i (k := .ptr) (some ⟨E.e, 0, none⟩) c0 (onSome_i rfl (ld1_i (k := .ptr) (some ⟨E.t.t, 0, none⟩) he2.cells.1 (onSome_i rfl (ld1_i (k := .int .i64) p.pos c1' (onSome_i rfl (ld1_i (k := .slice) sl c3 ?_)))))))
   have len := ok.len
   refine ⟨?_, ?_⟩
   ·refine Hint_i he2.tur ok.pos (ok.walk hh) hr (by omega) fun w4 k4 => ?_
    refine agg_new (vs := eH (G.hint p.pos p.way)) size_Hint rfl (oneH _) fun w6 o6 k6 _ => ?_
    refine ldN_i (l := [.int .i64, .int .i64, .int .i64, .int .i64]) (hTup (G.hint p.pos p.way)) (own_h o6) ?_
    refine alloc_i fun w7 o7 k7 z7 => ?_
    have K6 := ((k1.tr d2).tr k4).tr k6
    exact hQ _ w7 (h.keep (K6.tr k7)) (MsgsIs.one (x := (mNext (G.hint p.pos p.way), ⟨none, 0, 0⟩)) o7 (MsgX.none rfl) K6.size) rfl (K6.tr k7).wk
   ·refine alloc_i fun w8 o8 k8 z8 => ?_
    have o8' : Own w8 w1.drew.drew.heap.size tHint (eH ⟨0, 0, 0, 0⟩) := o8
    have h8 := h2.keep k8
    refine ⟨k8.cell c3 id, k8.cell c1' id, k8.cell he2.cells.1 id, k8.cell c0 id, ?_⟩
    refine Hint_i (he2.keep k8).tur ok.pos (ok.walk hh) (hr.mod k8 eI_ne fun _ _ => id) (by omega) fun w9 k9 => ?_
    refine agg_store (vs := eH (G.hint p.pos p.way)) (o8'.mod k9 id) size_Hint rfl (oneH _) fun w10 o10 m10 _ => ?_
    refine ldN_i (l := [.int .i64, .int .i64, .int .i64, .int .i64]) (hTup (G.hint p.pos p.way)) (own_h o10) ?_
    refine alloc_i fun w11 o11 k11 z11 => ?_
    have K2 := k1.tr d2
    have K10 : Keep w w10 := ((K2.tr k8).tr k9).fresh m10 fun k e => by rw [show k = w1.drew.drew.heap.size from e]; exact K2.size
    exact hQ _ w11 (h.keep (K10.tr k11)) (MsgsIs.one (x := (mNext (G.hint p.pos p.way), ⟨none, 0, 0⟩)) o11 (MsgX.none rfl) K10.size) rfl (K10.tr k11).wk
 have d : Keep w w.drew := Mod.drew (Mod.refl _ w)
 have hd := h.keep d
 have ed := hd.e
 obtain ⟨c0, c1', _⟩ := hd.cell
 refine onSome_i rfl (ld1_i (k := .ptr) (some ⟨E.e, 0, none⟩) c0 (onSome_i rfl (ld1_i (k := .ptr) (some ⟨E.t.t, 0, none⟩) ed.cells.1 (onSome_i rfl (ld1_i (k := .ptr) (some ⟨E.t.H.g, 0, none⟩) ed.tur.cells.1 (onSome_i rfl (ld1_i (k := .int .i64) p.pos c1' ?_)))))))
 refine ⟨?_, ?_⟩
 ·refine Edge_i ed.tur.gra (fun _ w2 k2 => ?_) (fun hn => absurd ok.pos hn)
  refine agg_new (vs := [.int .i64 (G.fr p.pos), .int .i64 (G.to p.pos), .int .i64 (G.wt p.pos)]) size_Edge rfl (by simp [Value.oneCell']) fun w3 o3 k3 z3 => ?_
  exact core _ w3 (own3 o3).2.1 ((d.tr k2).tr k3)
 ·refine alloc_i fun w2 o2 k2 z2 => ?_
  have o2' : Own w2 w.drew.heap.size tEdge [.int .i64 0, .int .i64 0, .int .i64 0] := o2
  refine ⟨k2.cell c1' id, k2.cell ed.tur.cells.1 id, k2.cell ed.cells.1 id, k2.cell c0 id, ?_⟩
  refine Edge_i (ed.keep k2).tur.gra (fun _ w3 k3 => ?_) (fun hn => absurd ok.pos hn)
  refine agg_store (vs := [.int .i64 (G.fr p.pos), .int .i64 (G.to p.pos), .int .i64 (G.wt p.pos)]) (o2'.mod k3 id) size_Edge rfl (by simp [Value.oneCell']) fun w4 o4 m4 _ => ?_
  exact core _ w4 (own3 o4).2.1 (((d.tr k2).tr k3).fresh m4 fun k e => by rw [show k = w.drew.heap.size from e]; exact d.size)
end
end Go.Proofs.YtjjgcimlmjnaeaaGreat

namespace Go.Proofs.YtjjgcimlmjnaeaaGreat
open Go Go.Den
section
variable {F : Nat → Prop} {W0 w : World} {s : Nat} {E : EngS} {G : Gr} {p : Ses}
theorem asks_i {closed : Sl} {c : List Bool} {Q : Sl → World → Prop} (h : SesAt F W0 w s E G p) (hp : G.isE p.pos) (hn : G.isN p.node) (hc : Rd w closed 1 eB c) (hF : ∀ k, F k → k < w.heap.size)
  (hQ : ∀ z ms w', AskR G c p z → SesAt F W0 w' s E G z.1 → OkS G z.1 → MsgsIs w' (fun k => w.heap.size ≤ k) ms z.2 → z.2.length ≤ 2 ∧ 1 ≤ z.2.length → Mod (fun k => k = s) w w' → Q ms w') :
  F_sS_asks (some ⟨s, 0, none⟩) closed w Q := by
 unfold F_sS_asks
 have ok := h.eng.tur.gra.ok
 have slt := h.lt
 intro J1 hJ1
 have lit : ∀ b k : Nat, ((⟨b, 0, none⟩ : Addr).add k) = ⟨b, k, none⟩ := fun b k => by rw [addr_lit, Nat.zero_add]
 have core : ∀ b w1 (sl : Sl) wt f r l, Own w1 b tAns (eAns (sl, wt, f, r, ())) → w.heap.size ≤ b → G.AnsIs p.node p.pos c l wt f r → Vec w1 tInt 1 eI sl l → l.length ≤ 51 → (∀ a, sl.b = some a → w.heap.size ≤ a.block) → Keep w w1 → J1 (some ⟨b, 0, none⟩, ()) w1 := by
  intro b w1 sl wt f r l o1 hb hA v1 hl f1 k1
  apply hJ1
  have d1 : Keep w1 w1.drew := Mod.drew (Mod.refl _ w1)
  have K1 := k1.tr d1
  have hd := h.keep K1
  have od := o1.mod d1 id
  have vd := v1.mod d1 fun _ _ => id
  have cd := own4 od
  refine onSome_i rfl (ld1_i (k := .slice) sl cd.1 (onSome_i rfl (ld1_i (k := .bool) f cd.2.2.1 ?_)))
  obtain ⟨sl0, o, hr, hb0⟩ := hd.own
  refine onSome_i rfl ?_
  rw [lit s 3]
  refine storeD1_i (o := 3) (v := sv sl) o size_sInt (by simp) rfl rfl fun w2 o2 m2 z2 => ?_
  have bs : b ≠ s := by omega
  have od2 := od.mod m2 bs
  refine ⟨(own4 od2).2.2.1, ?_⟩
  refine onSome_i rfl ?_
  rw [lit s 4]
  refine storeD1_i (o := 4) (v := .bool f) o2 size_Bool (by simp) rfl rfl fun w3 o3 m3 z3 => ?_
  have od3 := od2.mod m3 bs
  have ns : ∀ a, sl.b = some a → ¬ a.block = s := fun a ha e => by have := f1 a ha; omega
  have v3 := (vd.mod m2 ns).mod m3 ns
  have M3 : Mod (fun k => k = s) w w3 := (K1.wk.tr m2).tr m3
  have h3 : SesAt F W0 w3 s E G { p with way := l, has := f } := hd.put (m2.tr m3) o3 (v3.rd lenI) fun a ha => ⟨fun hf => by have := f1 a ha; have := hF _ hf; omega, v3.lt ha⟩
  refine onSome_i rfl (ld1_i (k := .bool) f (own4 od3).2.2.1 ?_)
  refine cond_i (fun hf => ?_) (fun hf => ?_)
  ·have hf' : f = false := by simpa using hf
   refine alloc_i fun w4 o4 k4 z4 => ?_
   subst hf'
   have e : askW G p l wt false = ({ p with way := l, has := false }, [mNoRoute]) := by unfold askW; rw [if_neg (by simp)]
   have hz : AskR G c p ({ p with way := l, has := false }, [mNoRoute]) := ⟨l, wt, false, r, hA, e.symm⟩
   have hok := (ask_ok ok hp hn hA).1
   rw [e] at hok
   exact hQ _ _ w4 hz (h3.keep k4) hok (MsgsIs.one (x := (mNoRoute, ⟨none, 0, 0⟩)) o4 (MsgX.none rfl) M3.size) (by simp) (M3.tr k4.wk)
  ·have hf' : f = true := by simpa using hf
   subst hf'
   have hok := (ask_ok ok hp hn hA).2 rfl
   have e : askW G p l wt true = ((hintS G { p with way := l, has := true }).1, mRoute l wt :: (hintS G { p with way := l, has := true }).2) := by unfold askW; rw [if_pos rfl]
   have hz : AskR G c p ((hintS G { p with way := l, has := true }).1, mRoute l wt :: (hintS G { p with way := l, has := true }).2) := ⟨l, wt, true, r, hA, e.symm⟩
   have d3 : Keep w3 w3.drew := Mod.drew (Mod.refl _ w3)
   have odd := od3.mod d3 id
   have h3d := h3.keep d3
   have M3d := M3.tr d3.wk
   have zz := M3d.size
   refine onSome_i rfl (ld1_i (k := .slice) sl (own4 odd).1 (onSome_i rfl (ld1_i (k := .int .i64) wt (own4 odd).2.1 ?_)))
   refine CloneI_i ((v3.mod d3 fun _ _ => id).rd lenI) (by omega) fun s3 w5 v5 k5 f5 => ?_
   have o5 := odd.mod k5 id
   refine ⟨(own4 o5).2.1, ?_⟩
   have h5 := h3d.keep k5
   have M5 := M3d.tr k5.wk
   have z5 := k5.size
   have hOk5 : OkS G (hintS G { p with way := l, has := true }).1 := hok.hintS
   have mx : ∀ {wx : World} (g : Nat), Mod (fun k => k = s) w5 wx → w5.heap.size ≤ g → MsgX wx (fun k => w.heap.size ≤ k ∧ k ≠ g) (mRoute l wt, s3) := fun g kx hg => by
    have vx := v5.mod kx fun a ha e => by have := f5 a ha; have e' : a.block = s := e; omega
    exact ⟨vx.rd lenI, fun a ha => ⟨⟨by have := f5 a ha; omega, by have := v5.lt ha; omega⟩, vx.lt ha⟩, hl⟩
   have W0le := h.k0.size
   have g5 : w5.heap.size ≠ s := by have := M5.size; omega
   refine ⟨?_, ?_⟩
   ·refine alloc_i fun w6 o6 k6 z6 => ?_
    have h5g : SesAt (fun k => F k ∨ k = w5.heap.size) W0 w5 s E G { p with way := l, has := true } := h5.more (fun k hk => hk.elim .inl (fun e => .inr (by omega))) (.inl h5.fs)
    refine shint_i (h5g.keep k6) hok rfl fun ms w7 h7 q7 hl7 m7 => ?_
    have z7 := m7.size
    refine msgs_app (x := (mRoute l wt, s3)) (P := fun k => w.heap.size ≤ k) (o6.mod m7 g5) (mx w5.heap.size (k6.wk.tr m7) (Nat.le_refl _)) (by omega) (fun k hk => by omega) (q7.wk fun k hk _ => ⟨by omega, by omega⟩) (by omega) fun r' w8 q8 m8 => ?_
    refine hQ _ _ w8 hz ((h7.mod m8 fun k hk => ⟨by omega, .inl (.inr hk), by omega⟩).more (fun k hk => .inl (.inl hk)) h.fs) hOk5 q8 ⟨by simp [hl7], by simp⟩ ((M5.tr (k6.wk.tr m7)).trans m8 fun k hk e => by omega)
   ·refine shint_i h5 hok rfl fun ms w9 h9 q9 hl9 m9 => ?_
    have z9 := m9.size
    refine ⟨(own4 (o5.mod m9 bs)).2.1, ?_⟩
    refine alloc_i fun w10 o10 k10 z10 => ?_
    have h9g : SesAt (fun k => F k ∨ k = w9.heap.size) W0 w9 s E G (hintS G { p with way := l, has := true }).1 := h9.more (fun k hk => hk.elim .inl (fun e => .inr (by omega))) (.inl h9.fs)
    have q9' : MsgsIs w9 (fun k => w.heap.size ≤ k ∧ k ≠ w9.heap.size) ms (hintS G { p with way := l, has := true }).2 := q9.wk fun k hk hlt => ⟨by omega, by omega⟩
    refine msgs_app (x := (mRoute l wt, s3)) (P := fun k => w.heap.size ≤ k) o10 (mx w9.heap.size (m9.tr k10.wk) z9) (by omega) (fun k hk => by omega) (q9'.keep k10) (by omega) fun r' w11 q11 m11 => ?_
    refine hQ _ _ w11 hz (((h9g.keep k10).mod m11 fun k hk => ⟨by omega, .inl (.inr hk), by omega⟩).more (fun k hk => .inl (.inl hk)) h.fs) hOk5 q11 ⟨by simp [hl9], by simp⟩ (((M5.tr m9).tr k10.wk).trans m11 fun k hk e => by omega)
 have d : Keep w w.drew := Mod.drew (Mod.refl _ w)
 have hd := h.keep d
 obtain ⟨c0, c1, c2, _⟩ := hd.cell
 have hcd := hc.mod d eB_ne fun _ _ => id
 refine onSome_i rfl (ld1_i (k := .ptr) (some ⟨E.e, 0, none⟩) c0 (onSome_i rfl (ld1_i (k := .int .i64) p.pos c1 (onSome_i rfl (ld1_i (k := .int .i64) p.node c2 ?_)))))
 refine ⟨?_, ?_⟩
 ·refine Way_i hd.e hcd fun sl wt f r l w1 hA v1 _ hl k1 f1 => ?_
  refine agg_new (vs := eAns (sl, wt, f, r, ())) size_Ans rfl (oneAns _) fun w2 o2 k2 z2 => ?_
  exact core _ w2 sl wt f r l o2 (by have := k1.size; have := d.size; omega) hA (v1.mod k2 fun _ _ => id) hl (fun a ha => by have := f1 a ha; have := d.size; omega) ((d.tr k1).tr k2)
 ·refine alloc_i fun w1 o1 k1 z1 => ?_
  have o1' : Own w1 w.drew.heap.size tAns (eAns (⟨none, 0, 0⟩, 0, false, false, ())) := o1
  refine ⟨k1.cell c2 id, k1.cell c1 id, k1.cell c0 id, ?_⟩
  refine Way_i (hd.keep k1).e (hcd.mod k1 eB_ne fun _ _ => id) fun sl wt f r l w2 hA v2 _ hl k2 f2 => ?_
  refine agg_store (vs := eAns (sl, wt, f, r, ())) (o1'.mod k2 id) size_Ans rfl (oneAns _) fun w3 o3 m3 _ => ?_
  have ds := d.size
  refine core _ w3 sl wt f r l o3 ds hA (v2.mod m3 fun a ha e => ?_) hl (fun a ha => by have := f2 a ha; omega) (((d.tr k1).tr k2).fresh m3 fun k e => by rw [show k = w.drew.heap.size from e]; exact ds)
  have := f2 a ha
  have e' : a.block = w.drew.heap.size := e
  omega
end
end Go.Proofs.YtjjgcimlmjnaeaaGreat
