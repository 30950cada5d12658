import Derived.Test.YtjjgcimlmjnaeaaGreatQ4
import Derived.Test.YtjjgcimlmjnaeaaGreatQ3
import Derived.Test.YtjjgcimlmjnaeaaGreatFSea
import Derived.Test.YtjjgcimlmjnaeaaGreatA3
import Derived.Test.YtjjgcimlmjnaeaaGreatQ1
import Derived.Test.YtjjgcimlmjnaeaaGreatFDis
import Derived.Test.YtjjgcimlmjnaeaaGreatFWay
namespace Go.Proofs.YtjjgcimlmjnaeaaGreat
open Go Go.Den
theorem some_i {l : Sl} {m : Nat} {f : Nat → List Int} {e : Int} {w : World} {Q : Sl → World → Prop} (h : RowsRd w l (rowsF m f)) (hm : m ≤ 51) (hf : ∀ i, i < m → (f i).length ≤ 1000)
  (hQ : ∀ s w' r, (¬ (0 ≤ e ∧ e < m) → r = []) → (0 ≤ e ∧ e < m → r = f e.toNat) → Vec w' tInt 1 eI s r → Keep w w' → (∀ b, s.b = some b → w.heap.size ≤ b.block) → Q s w') : F_turns_some l e w Q := by
 unfold F_turns_some
 have hl : l.l = m := by
  obtain ⟨ss, h1, h2, _⟩ := h
  rw [h1.len, h2]; simp [rowsF]
 have nil : ¬ (0 ≤ e ∧ e < m) → Q ⟨none, 0, 0⟩ w := fun hn => hQ _ w [] (fun _ => rfl) (fun h => absurd h hn) (Vec.nil _ _ _ _) (Mod.refl _ _) fun b hb => by cases hb
 refine cond_d (fun h => nil fun hn => by omega) (fun h0 => cond_d (fun h => nil fun hn => by omega) (fun h1 => ?_))
 have he : 0 ≤ e ∧ e < m := ⟨by omega, by omega⟩
 have hi : e.toNat < m := by omega
 obtain ⟨_, p, x, hp, hc, hr⟩ := h.get (rows_get hi)
 refine ⟨⟨he.1, by omega⟩, onSome_i hp (ld1_i (k := .slice) x hc ?_)⟩
 refine append_i elem_sInt lenI oneI (Vec.nil w tInt 1 eI) hr (by have := hf _ hi; simp; omega) (by have := hf _ hi; simp; omega) fun r w' hv hm hb _ => ?_
 refine hQ r w' (f e.toNat) (fun h => absurd he h) (fun _ => rfl) (by simpa using hv) ((Mod.refl _ w).fresh hm fun k ⟨a, ha, _⟩ => by cases ha) fun b hb' => ?_
 rcases hb with h1 | ⟨a, ha, hlt⟩
 ·rw [hb'] at h1; cases h1
 ·rw [hb'] at ha; cases ha; exact hlt
section
variable {w : World} {t : TurS} {G : Gr}
theorem Next_i {e : Int} {Q : Sl → World → Prop} (h : TurIs w t G) (hQ : ∀ s w', Vec w' tInt 1 eI s (G.nextL e) → Keep w w' → (∀ b, s.b = some b → w.heap.size ≤ b.block) → Q s w') : F_tT_Next (some ⟨t.t, 0, none⟩) e w Q := by
 unfold F_tT_Next
 refine cond_i (fun h => by simp at h) (fun _ => onSome_i rfl (ld1_i (k := .slice) t.nx h.cells.2.1 ?_))
 refine some_i (f := fun i : Nat => G.nextL (i : Int)) h.nxt h.gra.ok.m1.2 (fun i _ => by have := G.next_len (i : Int); have := h.gra.ok.m1; omega) fun s w' r h1 h2 v k f => ?_
 have e1 : r = G.nextL e := by
  by_cases he : 0 ≤ e ∧ e < G.m
  ·rw [h2 he]; show G.nextL ((e.toNat : Nat) : Int) = _; rw [Int.toNat_of_nonneg he.1]
  ·rw [h1 he]
   symm
   unfold Gr.nextL
   rw [List.filter_eq_nil_iff]
   exact fun b _ hb => he (G.turn_iff.1 hb).1
 rw [e1] at v
 exact hQ s w' v k f
theorem Prev_i {e : Int} {Q : Sl → World → Prop} (h : TurIs w t G) (hQ : ∀ s w', Vec w' tInt 1 eI s (G.prevL e) → Keep w w' → (∀ b, s.b = some b → w.heap.size ≤ b.block) → Q s w') : F_tT_Prev (some ⟨t.t, 0, none⟩) e w Q := by
 unfold F_tT_Prev
 refine cond_i (fun h => by simp at h) (fun _ => onSome_i rfl (ld1_i (k := .slice) t.pv h.cells.2.2 ?_))
 refine some_i (f := fun i : Nat => G.prevL (i : Int)) h.prv h.gra.ok.m1.2 (fun i _ => by have := G.prev_len (i : Int); have := h.gra.ok.m1; omega) fun s w' r h1 h2 v k f => ?_
 have e1 : r = G.prevL e := by
  by_cases he : 0 ≤ e ∧ e < G.m
  ·rw [h2 he]; show G.prevL ((e.toNat : Nat) : Int) = _; rw [Int.toNat_of_nonneg he.1]
  ·rw [h1 he]
   symm
   unfold Gr.prevL
   rw [List.filter_eq_nil_iff]
   exact fun b _ hb => he (G.turn_iff.1 hb).2.1
 rw [e1] at v
 exact hQ s w' v k f
theorem weightAt_i {i : Int} {K : Addr → World → Prop} (h : TurIs w t G) (hi : G.isE i) (hK : ∀ a w', w'.cell? (a.add 2) = some (.int .i64 (G.wt i)) → Keep w w' → w.heap.size ≤ a.block → K a w') :
  F_gG_Edge (some ⟨t.H.g, 0, none⟩) i w fun (t2 : Int × Int × Int × Unit) (_ : Bool) w2 => allocD w2 #[.int .i64 0, .int .i64 0, .int .i64 0] tEdge fun a3 w3 =>
   storeD Tryz.prog tEdge a3 (Value.agg #[(Value.int .i64 t2.1), (Value.int .i64 t2.2.1), (Value.int .i64 t2.2.2.1)]) w3 fun w4 => K a3 w4 := by
 refine Edge_i h.gra (fun _ w2 k2 => ?_) (fun hn => absurd hi hn)
 refine agg_new (vs := [.int .i64 (G.fr i), .int .i64 (G.to i), .int .i64 (G.wt i)]) size_Edge rfl (by simp [Value.oneCell']) fun w4 o4 k4 z4 => ?_
 exact hK _ w4 (own3 o4).2.2 (k2.tr k4) k2.size
theorem Weight_i {es : Sl} {l : List Int} {Q : Int → Bool → World → Prop} (h : TurIs w t G) (hr : Rd w es 1 eI l) (hl : l.length ≤ 100000) (hE : ∀ x ∈ l, G.isE x) (hQ : ∀ w', Keep w w' → Q (G.wsum l) true w') : F_walk_Weight (some ⟨t.t, 0, none⟩) es w Q := by
 unfold F_walk_Weight
 have hll := hr.len
 have bnd : ∀ i, i ≤ l.length → 0 ≤ G.wsum (l.take i) ∧ G.wsum (l.take i) ≤ 40 * i := fun i => by
  induction i with
  | zero => intro _; simp [Gr.wsum]
  | succ i ih =>
   intro hi
   have := ih (by omega)
   rw [List.take_succ_eq_append_getElem (show i < l.length by omega)]
   have hw := h.gra.ok.w1 (hE _ (List.getElem_mem (show i < l.length by omega)))
   unfold Gr.wsum at this ⊢
   rw [List.map_append, List.sum_append]
   simp only [List.map_cons, List.map_nil, List.sum_cons, List.sum_nil]
   omega
 refine loop_i (fun c s w1 => ∃ i : Nat, i ≤ l.length ∧ c = l.length - i ∧ s = (G.wsum (l.take i), (i : Int), ()) ∧ Keep w w1) l.length ⟨0, Nat.zero_le _, rfl, rfl, Mod.refl _ _⟩ ?_
 rintro c s w1 ⟨i, hi, rfl, rfl, k1⟩ X hX
 dsimp only
 refine cond_d (fun hlt => ?_) (fun hge => ?_)
 ·have hi' : i < l.length := by omega
  have hget := List.getElem?_eq_getElem hi'
  have hEi := hE _ (List.getElem_mem hi')
  have htk := List.take_succ_eq_append_getElem hi'
  have hb := bnd i (by omega)
  have hw := h.gra.ok.w1 hEi
  generalize l[i] = x at *
  obtain ⟨p, hp, hc⟩ := rd_cell (k := .int .i64) (e := fun x => x) (hr.mod k1 eI_ne fun _ _ => id) hget
  rw [Int.toNat_natCast]
  have h1 := h.keep k1
  refine ⟨⟨by omega, hlt⟩, onSome_i hp (ld1_i (k := .int .i64) x hc (cond_i (fun h => by simp at h) (fun _ => onSome_i rfl (ld1_i (k := .ptr) (some ⟨t.H.g, 0, none⟩) h1.cells.1 ?_))))⟩
  refine Edge_i h1.gra (fun _ w2 k2 => ?_) (fun hn => absurd hEi hn)
  refine agg_new (vs := [.int .i64 (G.fr x), .int .i64 (G.to x), .int .i64 (G.wt x)]) size_Edge rfl (by simp [Value.oneCell']) fun w4 o4 k4 z4 => ?_
  refine cond_i (fun h => by simp at h) (fun _ => ld1_i (k := .int .i64) (G.wt x) (own3 o4).2.2 ?_)
  rw [wi_ i (by omega), w64 (n := G.wsum (l.take i) + G.wt x) (by omega) (by omega)]
  refine hX _ _ _ (by omega) ⟨i + 1, hi', rfl, ?_, (k1.tr k2).tr k4⟩
  rw [htk]; unfold Gr.wsum; simp
 ·have : i = l.length := by omega
  subst this
  rw [List.take_length]
  exact hQ w1 k1
theorem Arcs_i {Q : Sl → World → Prop} (h : TurIs w t G) (hQ : ∀ s w', Vec w' tArc 4 eArc s G.arcs → Keep w w' → (∀ b, s.b = some b → w.heap.size ≤ b.block) → Q s w') : F_tT_Arcs (some ⟨t.t, 0, none⟩) w Q := by
 unfold F_tT_Arcs
 have hm := h.gra.ok.m1
 have hal := G.arcs_len hm.2
 refine cond_i (fun h => by simp at h) (fun _ => onSome_i rfl (ld1_i (k := .slice) t.nx h.cells.2.1 ?_))
 have hnl : t.nx.l = G.m := by
  obtain ⟨ss, h1, h2, _⟩ := h.nxt
  rw [h1.len, h2]; simp [nextR]
 generalize hg : (fun a : Int => (G.nextL a).map fun b => (⟨a, b, G.wt b, -1⟩ : Arc)) = g at *
 have hG : G.arcs = (ints G.m).flatMap g := by rw [← hg]; rfl
 have pre : ∀ a : Nat, a ≤ G.m → ((ints a).flatMap g).length ≤ 2601 := fun a ha => by
  have := flat_len g 51 (ints a) fun x _ => by rw [← hg]; simp only [List.length_map]; have := G.next_len x; omega
  rw [ints_len] at this
  have h2 : a * 51 ≤ 51 * 51 := Nat.mul_le_mul_right _ (by omega)
  omega
 refine loop_i (fun c s w1 => ∃ (a : Nat) (o : Sl), a ≤ G.m ∧ c = G.m - a ∧ s = (o, (a : Int), ()) ∧ Keep w w1 ∧ Vec w1 tArc 4 eArc o ((ints a).flatMap g) ∧ (∀ b, o.b = some b → w.heap.size ≤ b.block)) G.m
  ⟨0, ⟨none, 0, 0⟩, Nat.zero_le _, rfl, rfl, Mod.refl _ _, Vec.nil _ _ _ _, fun b hb => by cases hb⟩ ?_
 rintro c s w1 ⟨a, o, ha, rfl, rfl, k1, v1, f1⟩ X hX
 dsimp only
 refine cond_d (fun hlt => ?_) (fun hge => ?_)
 ·have ha' : a < G.m := by omega
  obtain ⟨_, p, x, hp, hc, hr⟩ := h.nxt.get (i := a) (r := G.nextL (a : Int)) (by simp [nextR, ha'])
  rw [Int.toNat_natCast]
  refine ⟨⟨by omega, hlt⟩, onSome_i hp (ld1_i (k := .slice) x (k1.cell hc id) ?_)⟩
  have hnx := G.next_len (a : Int)
  have hnE : ∀ b ∈ G.nextL (a : Int), G.isE b := fun b hb => (G.turn_iff.1 (G.mem_next.1 hb)).2.1
  have hga : g (a : Int) = (G.nextL (a : Int)).map fun b => (⟨(a : Int), b, G.wt b, -1⟩ : Arc) := by rw [← hg]
  generalize G.nextL (a : Int) = l at *
  have hxl := hr.len
  have hp1 := pre a (by omega)
  refine loop_i (fun c s w2 => ∃ (j : Nat) (o : Sl), j ≤ l.length ∧ c = l.length - j ∧ s = (o, (j : Int), ()) ∧ Keep w w2 ∧ Vec w2 tArc 4 eArc o ((ints a).flatMap g ++ (l.take j).map fun b => (⟨(a : Int), b, G.wt b, -1⟩ : Arc)) ∧ (∀ b, o.b = some b → w.heap.size ≤ b.block)) l.length
   ⟨0, o, Nat.zero_le _, rfl, rfl, k1, by simpa using v1, f1⟩ ?_
  clear v1 f1 k1
  rintro c s w2 ⟨j, o, hj, rfl, rfl, k2, v2, f2⟩ Y hY
  dsimp only
  refine cond_d (fun hlt2 => ?_) (fun hge2 => ?_)
  ·have hj' : j < l.length := by omega
   have hget := List.getElem?_eq_getElem hj'
   have hEj := hnE _ (List.getElem_mem hj')
   have htk := List.take_succ_eq_append_getElem hj'
   generalize l[j] = b at *
   obtain ⟨q, hq, hcq⟩ := rd_cell (k := .int .i64) (e := fun x => x) (hr.mod k2 eI_ne fun _ _ => id) hget
   rw [Int.toNat_natCast]
   have h2 := h.keep k2
   refine ⟨⟨by omega, hlt2⟩, onSome_i hq (ld1_i (k := .int .i64) b hcq (onSome_i rfl (ld1_i (k := .ptr) (some ⟨t.H.g, 0, none⟩) h2.cells.1 ?_)))⟩
   refine weightAt_i h2 hEj fun ad w5 hc5 k5 hb5 => ?_
   refine ld1_i (k := .int .i64) (G.wt b) hc5 ?_
   refine alloc_i fun w6 o6 k6 z6 => ?_
   have v6 := (v2.mod k5 fun _ _ => id).mod k6 fun _ _ => id
   have vx : Vec w6 tArc 4 eArc ⟨some ⟨w5.heap.size, 0, none⟩, 1, 1⟩ [(⟨(a : Int), b, G.wt b, -1⟩ : Arc)] := Vec.new lenA [_] o6 (by simp [maxLen])
   have h56 := k5.tr k6
   have hz5 := k5.size
   have hz6 := k6.size
   have hz2 := k2.size
   have hlen : ((ints a).flatMap g ++ (l.take j).map fun b => (⟨(a : Int), b, G.wt b, -1⟩ : Arc)).length ≤ 3000 := by rw [List.length_append, List.length_map, List.length_take]; omega
   refine append_i elem_sArc lenA oneA v6 (vx.rd lenA) (by show _ + 1 ≤ _; omega) (by show (_ + 1) * 32 ≤ _; omega) fun r w7 v7 m7 f7 _ => ?_
   have K7 : Keep w w7 := (k2.tr h56).fresh m7 fun k ⟨b', hb', e⟩ => by rw [e]; exact f2 b' hb'
   rw [wi_ j (by omega)]
   refine hY _ _ _ (by omega) ⟨j + 1, r, hj', rfl, rfl, K7, ?_, fun b' hb' => ?_⟩
   ·rw [htk, List.map_append, ← List.append_assoc]; exact v7
   ·rcases f7 with h1 | ⟨a', ha', hlt'⟩
    ·exact f2 b' (by rw [← h1]; exact hb')
    ·rw [hb'] at ha'; cases ha'; omega
  ·have ej : j = l.length := by omega
   subst ej
   rw [List.take_length, ← hga] at v2
   rw [wi_ a (by omega)]
   exact hX _ _ _ (by omega) ⟨a + 1, o, ha', rfl, rfl, k2, by rw [ints_succ, List.flatMap_append]; simpa using v2, f2⟩
 ·have : a = G.m := by omega
  subst this
  exact hQ o w1 (by rw [hG]; exact v1) k1 f1
end
end Go.Proofs.YtjjgcimlmjnaeaaGreat

namespace Go.Proofs.YtjjgcimlmjnaeaaGreat
open Go Go.Den
abbrev eH (h : HintP) : List Value := [.int .i64 h.cls, .int .i64 h.edge, .int .i64 h.far, .int .i64 h.left]
abbrev hTup (h : HintP) : Int × Int × Int × Int × Unit := (h.cls, h.edge, h.far, h.left, ())
theorem oneH (h : HintP) : ∀ u ∈ eH h, u.oneCell' = true := by intro u hu; simp at hu; rcases hu with rfl | rfl | rfl | rfl <;> rfl
theorem own_h {w : World} {b : Nat} {e : TypeId} {h : HintP} (o : Own w b e (eH h)) : HoldsAt w ⟨b, 0, none⟩ 0 (encs [.int .i64, .int .i64, .int .i64, .int .i64] (hTup h)) := own_all o
theorem walk_isE {G : Gr} : ∀ {l : List Int} {a : Int}, G.walkB a l = true → ∀ x ∈ l, G.isE x
 | [], _, _, _, hx => by cases hx
 | y :: l, a, h, x, hx => by
  simp only [Gr.walkB, Bool.and_eq_true] at h
  rcases List.mem_cons.1 hx with rfl | hx
  ·exact (Gr.turn_iff.1 h.1).2.1
  ·exact walk_isE h.2 x hx
theorem wsum_rng {G : Gr} (ok : OkG G) {l : List Int} (hE : ∀ x ∈ l, G.isE x) : 0 ≤ G.wsum l ∧ G.wsum l ≤ 40 * l.length := by
 induction l with
 | nil => simp [Gr.wsum]
 | cons x l ih =>
  have h1 := ih fun y hy => hE y (by simp [hy])
  have h2 := ok.w1 (hE x (by simp))
  rw [Gr.wsum_cons]
  simp only [List.length_cons]
  omega
theorem wsum_take {G : Gr} {l : List Int} {i : Nat} {x : Int} (h : l[i]? = some x) : G.wsum (l.take (i + 1)) = G.wsum (l.take i) + G.wt x := by
 obtain ⟨hi, hx⟩ := List.getElem?_eq_some_iff.1 h
 rw [List.take_succ_eq_append_getElem hi, hx]
 unfold Gr.wsum
 rw [List.map_append, List.sum_append]
 simp
section
variable {w : World} {t : TurS} {G : Gr}
theorem May_i {a b : Int} {Q : Bool → World → Prop} (h : TurIs w t G) (ht : G.turn a b = true) (hQ : ∀ w', Keep w w' → Q true w') : F_tT_May (some ⟨t.t, 0, none⟩) a b w Q := by
 unfold F_tT_May
 obtain ⟨ha, hb, hab, hn⟩ := Gr.turn_iff.1 ht
 refine cond_i (fun h => by simp at h) (fun _ => onSome_i rfl (ld1_i (k := .ptr) (some ⟨t.H.g, 0, none⟩) h.cells.1 ?_))
 refine Edge_i h.gra (fun _ w1 k1 => ?_) (fun hn => absurd ha hn)
 refine agg_new (vs := [.int .i64 (G.fr a), .int .i64 (G.to a), .int .i64 (G.wt a)]) size_Edge rfl (by simp [Value.oneCell']) fun w3 o3 k3 z3 => ?_
 have h3 := (h.keep k1).keep k3
 refine onSome_i rfl (ld1_i (k := .ptr) (some ⟨t.H.g, 0, none⟩) h3.cells.1 ?_)
 refine Edge_i h3.gra (fun _ w4 k4 => ?_) (fun hn => absurd hb hn)
 refine agg_new (vs := [.int .i64 (G.fr b), .int .i64 (G.to b), .int .i64 (G.wt b)]) size_Edge rfl (by simp [Value.oneCell']) fun w6 o6 k6 z6 => ?_
 refine cond_i (fun _ => cond_i (fun _ => ?_) (fun h => by simp at h)) (fun h => by simp at h)
 refine ld1_i (k := .int .i64) (G.to a) (own3 ((o3.mod k4 id).mod k6 id)).2.1 (ld1_i (k := .int .i64) (G.fr b) (own3 o6).1 ?_)
 have h6 := (h3.keep k4).keep k6
 refine cond_i (fun _ => ?_) (fun h => by rw [hab] at h; simp at h)
 refine onSome_i rfl (ld1_i (k := .ptr) (some ⟨t.H.g, 0, none⟩) h6.cells.1 (Banned_i h6.gra fun w7 k7 => ?_))
 rw [decide_eq_false hn]
 exact hQ w7 ((((k1.tr k3).tr k4).tr k6).tr k7)
theorem Valid_i {e : Int} {es : Sl} {l : List Int} {Q : Bool → World → Prop} (h : TurIs w t G) (he : G.isE e) (hw : G.walkB e l = true) (hr : Rd w es 1 eI l) (hl : l.length ≤ 100000) (hQ : ∀ w', Keep w w' → Q true w') : F_walk_Valid (some ⟨t.t, 0, none⟩) e es w Q := by
 unfold F_walk_Valid
 have he0 := he.1
 have he1 := he.2
 have hll := hr.len
 refine cond_i (fun h => by simp at h) (fun _ => cond_d (fun h => by omega) (fun _ => onSome_i rfl (ld1_i (k := .ptr) (some ⟨t.H.g, 0, none⟩) h.cells.1 (Edges_i h.gra (cond_d (fun h => by omega) (fun _ => ?_))))))
 refine loop_i (fun c s w1 => ∃ (i : Nat) (a : Int), i ≤ l.length ∧ c = l.length - i ∧ s = (a, (i : Int), ()) ∧ Keep w w1 ∧ G.walkB a (l.drop i) = true) l.length ⟨0, e, Nat.zero_le _, rfl, rfl, Mod.refl _ _, by simpa using hw⟩ ?_
 rintro c s w1 ⟨i, a, hi, rfl, rfl, k1, hwa⟩ X hX
 dsimp only
 refine cond_d (fun hlt => ?_) (fun hge => hQ w1 k1)
 have hi' : i < l.length := by omega
 have hget := List.getElem?_eq_getElem hi'
 rw [List.drop_eq_getElem_cons hi'] at hwa
 generalize l[i] = x at *
 simp only [Gr.walkB, Bool.and_eq_true] at hwa
 obtain ⟨p, hp, hc⟩ := rd_cell (k := .int .i64) (e := fun x => x) (hr.mod k1 eI_ne fun _ _ => id) hget
 rw [Int.toNat_natCast]
 refine ⟨⟨by omega, hlt⟩, onSome_i hp (ld1_i (k := .int .i64) x hc (May_i (h.keep k1) hwa.1 fun w3 k3 => ?_))⟩
 refine cond_i (fun h => by simp at h) (fun _ => ?_)
 rw [wi_ i (by omega)]
 exact hX _ _ _ (by omega) ⟨i + 1, x, hi', rfl, rfl, k1.tr k3, hwa.2⟩
theorem ghint_i {a : Int} {es : Sl} {l : List Int} {Q : (Int × Int × Int × Int × Unit) → Int → World → Prop} (h : TurIs w t G) (ha : G.isE a) (hw : G.walkB a l = true) (hr : Rd w es 1 eI l) (hl : l.length ≤ 100000) (hQ : ∀ n w', Keep w w' → Q (hTup (G.hint a l)) n w') :
  F_guide_hint (some ⟨t.t, 0, none⟩) a es w Q := by
 unfold F_guide_hint
 have ok := h.gra.ok
 have hm := ok.m1
 have hE := walk_isE hw
 have hll := hr.len
 have lit : ∀ k, ((⟨w.heap.size, 0, none⟩ : Addr).add k) = ⟨w.heap.size, k, none⟩ := fun k => by rw [addr_lit, Nat.zero_add]
 refine alloc_i fun w1 o1 k1 z1 => ?_
 have o1' : Own w1 w.heap.size tHint (eH ⟨0, 0, 0, 0⟩) := o1
 refine Weight_i (h.keep k1) (hr.mod k1 eI_ne fun _ _ => id) hl hE fun w2 k2 => ?_
 rw [lit 0, lit 1, lit 2, lit 3]
 refine storeD1_i (o := 3) (v := .int .i64 (G.wsum l)) (o1'.mod k2 id) size_Int (by simp) rfl rfl fun w3 o3 m3 z3 => ?_
 have up : ∀ {wx wy : World}, Keep w wx → Mod (fun k => k = w.heap.size) wx wy → Keep w wy := fun kx m => kx.fresh m fun k e => by rw [show k = w.heap.size from e]; exact Nat.le_refl _
 have K3 := up (k1.tr k2) m3
 have o3' : Own w3 w.heap.size tHint (eH ⟨0, 0, 0, G.wsum l⟩) := o3
 have fin : ∀ w4 (f : HintP) n, Own w4 w.heap.size tHint (eH f) → Keep w w4 → f = G.hint a l → ldN [.int .i64, .int .i64, .int .i64, .int .i64] w4 ⟨w.heap.size, 0, none⟩ fun (t2 : Int × Int × Int × Int × Unit) =>
   storeD Tryz.prog tHint ⟨w.heap.size, 0, none⟩ (Value.agg #[(Value.int .i64 t2.1), (Value.int .i64 t2.2.1), (Value.int .i64 t2.2.2.1), (Value.int .i64 t2.2.2.2.1)]) w4 fun w9 => ldN [.int .i64, .int .i64, .int .i64, .int .i64] w9 ⟨w.heap.size, 0, none⟩ fun (t3 : Int × Int × Int × Int × Unit) => Q (t3.1, t3.2.1, t3.2.2.1, t3.2.2.2.1, ()) n w9 := by
  intro w4 f n o4 k4 hf
  refine ldN_i (l := [.int .i64, .int .i64, .int .i64, .int .i64]) (hTup f) (own_h o4) ?_
  refine agg_store (vs := eH f) o4 size_Hint rfl (oneH f) fun w5 o5 m5 _ => ?_
  refine ldN_i (l := [.int .i64, .int .i64, .int .i64, .int .i64]) (hTup f) (own_h o5) ?_
  rw [hf]
  exact hQ n w5 (up k4 m5)
 refine loop_i (fun c s w4 => ∃ (i : Nat) (b : Int), i ≤ l.length ∧ c = l.length - i ∧ s = (b, (i : Int), ()) ∧ Keep w w4 ∧ G.isE b ∧ G.walkB b (l.drop i) = true ∧ Own w4 w.heap.size tHint (eH ⟨0, 0, G.wsum (l.take i), G.wsum l⟩) ∧
  G.hintF a l = ((G.hintF b (l.drop i)).1, (G.hintF b (l.drop i)).2.1, G.wsum (l.take i) + (G.hintF b (l.drop i)).2.2)) l.length ⟨0, a, Nat.zero_le _, rfl, rfl, K3, ha, by simpa using hw, o3', by simp [Gr.wsum]⟩ ?_
 rintro c s w4 ⟨i, b, hi, rfl, rfl, k4, hb, hwb, o4, hh⟩ X hX
 dsimp only
 have h4 := h.keep k4
 refine cond_d (fun hlt => ?_) (fun hge => ?_)
 ·have hi' : i < l.length := by omega
  have hget := List.getElem?_eq_getElem hi'
  have htake := wsum_take (G := G) hget
  have hrng := wsum_rng ok (l := l.take i) fun x hx => hE x (List.mem_of_mem_take hx)
  have hlt' : (l.take i).length = i := by rw [List.length_take]; omega
  rw [List.drop_eq_getElem_cons hi'] at hwb hh
  generalize l[i] = x at *
  simp only [Gr.walkB, Bool.and_eq_true] at hwb
  have hxE := (Gr.turn_iff.1 hwb.1).2.1
  have hwx := ok.w1 hxE
  obtain ⟨p, hp, hc⟩ := rd_cell (k := .int .i64) (e := fun x => x) (hr.mod k4 eI_ne fun _ _ => id) hget
  rw [Int.toNat_natCast]
  refine ⟨⟨by omega, hlt⟩, onSome_i hp (ld1_i (k := .int .i64) x hc (Next_i h4 fun s1 w5 v5 k5 _ => ?_))⟩
  have h5 := h4.keep k5
  have o5 := o4.mod k5 id
  have sl := v5.len
  refine cond_i (fun hne => ?_) (fun heq => ?_)
  ·have hne' : (G.nextL b).length ≠ 1 := by
    intro e; rw [sl, e] at hne; simp at hne
   rw [show G.hintF b (x :: l.drop (i + 1)) = (G.bend b x, x, 0) by simp only [Gr.hintF]; rw [if_pos hne']] at hh
   refine onSome_i rfl (ld1_i (k := .ptr) (some ⟨t.H.g, 0, none⟩) h5.cells.1 (Of_i h5.gra hb hxE fun w6 k6 => ?_))
   refine storeD1_i (o := 0) (v := .int .i64 (G.bend b x)) (o5.mod k6 id) size_Int (by simp) rfl rfl fun w7 o7 m7 _ => ?_
   refine storeD1_i (o := 1) (v := .int .i64 x) o7 size_Int (by simp) rfl rfl fun w8 o8 m8 _ => ?_
   refine fin w8 ⟨G.bend b x, x, G.wsum (l.take i), G.wsum l⟩ i o8 (up (up ((k4.tr k5).tr k6) m7) m8) ?_
   unfold Gr.hint
   rw [hh]
   simp
  ·have heq' : (G.nextL b).length = 1 := by rw [sl] at heq; simp at heq; omega
   rw [show G.hintF b (x :: l.drop (i + 1)) = ((G.hintF x (l.drop (i + 1))).1, (G.hintF x (l.drop (i + 1))).2.1, G.wt x + (G.hintF x (l.drop (i + 1))).2.2) by rw [Gr.hintF, if_neg (by simp [heq'])]] at hh
   refine onSome_i rfl (ld1_i (k := .ptr) (some ⟨t.H.g, 0, none⟩) h5.cells.1 (weightAt_i h5 hxE fun a5 w12 c12 k12 _ => ?_))
   have o12 := o5.mod k12 id
   have c2 : w12.cell? ⟨w.heap.size, 2, none⟩ = some (.int .i64 (G.wsum (l.take i))) := by rw [o12.cell]; rfl
   refine ld1_i (k := .int .i64) _ c2 (ld1_i (k := .int .i64) (G.wt x) c12 ?_)
   rw [w64 (n := G.wsum (l.take i) + G.wt x) (by omega) (by omega), wi_ i (by omega)]
   refine storeD1_i (o := 2) (v := .int .i64 (G.wsum (l.take i) + G.wt x)) o12 size_Int (by simp) rfl rfl fun w13 o13 m13 _ => ?_
   refine hX _ _ _ (by omega) ⟨i + 1, x, hi', rfl, rfl, up ((k4.tr k5).tr k12) m13, hxE, hwb.2, ?_, ?_⟩
   ·rw [htake]; exact o13
   ·rw [hh, htake]; simp only [Prod.mk.injEq, true_and]; omega
 ·have ei : i = l.length := by omega
  subst ei
  refine storeD1_i (o := 0) (v := .int .i64 9) o4 size_Int (by simp) rfl rfl fun w7 o7 m7 _ => ?_
  refine storeD1_i (o := 1) (v := .int .i64 (-1)) o7 size_Int (by simp) rfl rfl fun w8 o8 m8 _ => ?_
  refine fin w8 ⟨9, -1, G.wsum (l.take l.length), G.wsum l⟩ _ o8 (up (up k4 m7) m8) ?_
  unfold Gr.hint
  rw [hh, List.drop_length]
  simp [Gr.hintF]
theorem Hint_i {a : Int} {es : Sl} {l : List Int} {Q : (Int × Int × Int × Int × Unit) → Bool → World → Prop} (h : TurIs w t G) (ha : G.isE a) (hw : G.walkB a l = true) (hr : Rd w es 1 eI l) (hl : l.length ≤ 100000) (hQ : ∀ w', Keep w w' → Q (hTup (G.hint a l)) true w') :
  F_guide_Hint (some ⟨t.t, 0, none⟩) a es w Q := by
 unfold F_guide_Hint
 refine alloc_i fun w1 o1 k1 z1 => ?_
 have o1' : Own w1 w.heap.size tHint (eH ⟨0, 0, 0, 0⟩) := o1
 refine Valid_i (h.keep k1) ha hw (hr.mod k1 eI_ne fun _ _ => id) hl fun w2 k2 => ?_
 refine cond_i (fun h => by simp at h) (fun _ => ?_)
 have K2 := k1.tr k2
 refine ghint_i (h.keep K2) ha hw (hr.mod K2 eI_ne fun _ _ => id) hl fun n w4 k4 => ?_
 refine agg_new (vs := eH (G.hint a l)) size_Hint rfl (oneH _) fun w6 o6 k6 _ => ?_
 refine ldN_i (l := [.int .i64, .int .i64, .int .i64, .int .i64]) (hTup (G.hint a l)) (own_h o6) ?_
 refine agg_store (vs := eH (G.hint a l)) (((o1'.mod k2 id).mod k4 id).mod k6 id) size_Hint rfl (oneH _) fun w7 o7 m7 _ => ?_
 refine ldN_i (l := [.int .i64, .int .i64, .int .i64, .int .i64]) (hTup (G.hint a l)) (own_h o7) ?_
 exact hQ w7 (((K2.tr k4).tr k6).fresh m7 fun k e => by rw [show k = w.heap.size from e]; exact Nat.le_refl _)
end
end Go.Proofs.YtjjgcimlmjnaeaaGreat

namespace Go.Proofs.YtjjgcimlmjnaeaaGreat
open Go Go.Den
theorem Mul_i {n : Nat} (hn : n ≤ 51) {w : World} {Q : Int → Int → World → Prop} (hQ : Q 0 (n : Int) w) : F_math_bits_Mul (IntKind.wrap .u64 (((1 : Nat) : Int))) (IntKind.wrap .u64 (n : Int)) w Q := by
 unfold F_math_bits_Mul
 have key : ∀ k : Fin 60, F_math_bits_Mul64 (IntKind.wrap .u64 (((1 : Nat) : Int))) (IntKind.wrap .u64 ((k.val : Nat) : Int)) w (fun a b w' => a = 0 ∧ b = ((k.val : Nat) : Int) ∧ w' = w) := by
  intro k
  unfold F_math_bits_Mul64
  refine ⟨by decide, by decide, by decide, by decide, by decide, ?_, ?_, rfl⟩ <;> revert k <;> decide +kernel
 have h := key ⟨n, by omega⟩
 unfold F_math_bits_Mul64 at h ⊢
 obtain ⟨_, _, _, _, _, h1, h2, _⟩ := h
 refine ⟨by decide, by decide, by decide, by decide, by decide, ?_⟩
 simp only at h1 h2
 rw [h1, h2]; exact hQ
theorem rep_flat (x : Int) : ∀ n : Nat, (List.replicate n x).flatMap eI = List.replicate n (.int .i64 x)
 | 0 => rfl
 | n + 1 => by rw [List.replicate_succ, List.replicate_succ, List.flatMap_cons, rep_flat x n]; rfl
theorem Repeat_i {w : World} {b n : Nat} {Q : Sl → World → Prop} (h : Own w b tInt [.int .i64 (-1)]) (hn : n ≤ 51) (hQ : ∀ w', Vec w' tInt 1 eI ⟨some ⟨w.heap.size, 0, none⟩, n, n⟩ (List.replicate n (-1)) → Keep w w' → Q ⟨some ⟨w.heap.size, 0, none⟩, n, n⟩ w') :
  F_slices_Repeat_sint_int ⟨some ⟨b, 0, none⟩, 1, 1⟩ (n : Int) w Q := by
 unfold F_slices_Repeat_sint_int
 refine cond_d (fun h => by omega) (fun _ => ?_)
 refine Mul_i hn ?_
 refine cond_d (fun h => by omega) (fun _ => cond_d (fun h => by omega) (fun _ => ?_))
 rw [w64 (n := (n : Int)) (by omega) (by omega)]
 refine make_i elem_sInt (enc := eI) (0 : Int) rfl lenI (by omega) (Int.le_refl _) (by omega) (by omega) fun w2 v2 k2 => ?_
 simp only [Int.toNat_natCast] at v2 ⊢
 have hb := h.lt
 have fin : ∀ w', Own w' w.heap.size tInt (List.replicate n (.int .i64 (-1))) → Keep w w' → Q ⟨some ⟨w.heap.size, 0, none⟩, n, n⟩ w' := fun w' o k => by
  refine hQ w' ⟨by simp, Nat.le_refl _, by simp [maxLen]; omega, .inr ⟨w.heap.size, [], rfl, ?_, by rw [List.append_nil, length_flatMap_enc lenI]; simp⟩⟩ k
  rw [List.append_nil, rep_flat]; exact o
 have o2 : Own w2 w.heap.size tInt (List.replicate n (.int .i64 0)) := by
  rcases v2.own with ⟨h1, _⟩ | ⟨g, rest, hg, ho, hl⟩
  ·cases h1
  ·cases hg
   rw [rep_flat] at ho hl
   rw [List.length_append, List.length_replicate] at hl
   have hl' : n + rest.length = n * 1 := hl
   have hr : rest = [] := List.eq_nil_of_length_eq_zero (by omega)
   rw [hr, List.append_nil] at ho; exact ho
 have hsrc : ∀ {wx : World}, Keep w wx → ∀ j v, ([.int .i64 (-1)] : List Value)[j]? = some v → wx.cell? ((⟨b, 0, none⟩ : Addr).add j) = some v := fun kx => (h.mod kx id).read fun j v hj => by simpa using hj
 have step : ∀ {w4 : World} {k m : Nat} {cs : List Value} {sa : Addr} {sl sc : Nat} {K : Int → World → Prop}, Own w4 w.heap.size tInt (List.replicate k (.int .i64 (-1)) ++ List.replicate (n - k) (.int .i64 0)) → Keep w w4 → k + m ≤ n → m = min sl (n - k) → cs = List.replicate m (.int .i64 (-1)) →
   (∀ j v, cs[j]? = some v → w4.cell? (sa.add j) = some v) → (∀ w5, Own w5 w.heap.size tInt (List.replicate (k + m) (.int .i64 (-1)) ++ List.replicate (n - (k + m)) (.int .i64 0)) → Keep w w5 → K (m : Int) w5) →
   copyD Tryz.prog tsInt tsInt ⟨some ⟨w.heap.size, k, none⟩, n - k, n - k⟩ (.slice (some sa) sl sc) w4 K := fun {w4 k m cs sa sl sc K} o k4 hkm hm hcs hr hK => by
  subst hcs
  refine copy_own (n := 1) elem_sInt.under size_Int o (by simp; omega) hr (by simp; omega) (fun v hv => by rw [(List.mem_replicate.1 hv).2]; rfl) fun w5 o5 m5 _ => ?_
  rw [← hm]
  refine hK w5 ?_ (k4.fresh m5 fun k e => by rw [show k = _ from e]; exact Nat.le_refl _)
  have e1 : (List.replicate k (Value.int .i64 (-1)) ++ List.replicate (n - k) (Value.int .i64 0)).take k = List.replicate k (.int .i64 (-1)) := by
   rw [List.take_append_of_le_length (by simp), List.take_of_length_le (by simp)]
  have e2 : (List.replicate k (Value.int .i64 (-1)) ++ List.replicate (n - k) (Value.int .i64 0)).drop (k + (List.replicate m (Value.int .i64 (-1))).length) = List.replicate (n - (k + m)) (.int .i64 0) := by
   rw [List.drop_append, List.drop_of_length_le (by simp), List.nil_append, List.drop_replicate]
   simp
   omega
  rw [e1, e2, List.replicate_append_replicate] at o5
  exact o5
 have first := fun (K : Int → World → Prop) => step (K := K) (w4 := w2) (k := 0) (m := min 1 n) (cs := List.replicate (min 1 n) (.int .i64 (-1))) (sa := ⟨b, 0, none⟩) (sl := 1) (sc := 1)
 simp only [List.replicate_zero, List.nil_append, Nat.sub_zero, Nat.zero_add] at first
 refine first _ o2 k2 (by omega) trivial trivial (fun j v hj => ?_) fun w3 o3 k3 => ?_
 ·refine hsrc k2 j v ?_
  rw [List.getElem?_replicate] at hj
  split at hj
  ·have : j = 0 := by omega
   subst this; simpa using hj
  ·cases hj
 refine loop_i (fun c t w4 => ∃ k : Nat, k ≤ n ∧ min 1 n ≤ k ∧ c = n - k ∧ t = ((k : Int), ()) ∧ Own w4 w.heap.size tInt (List.replicate k (.int .i64 (-1)) ++ List.replicate (n - k) (.int .i64 0)) ∧ Keep w w4) (n - min 1 n) ⟨min 1 n, by omega, Nat.le_refl _, rfl, rfl, o3, k3⟩ ?_
 rintro c t w4 ⟨k, hk, hk1, rfl, rfl, o4, k4⟩ X hX
 dsimp only
 refine cond_d (fun hlt => ?_) (fun hge => ?_)
 ·have hlt' : k < n := by omega
  refine ⟨⟨by omega, by omega⟩, ⟨by omega, by omega⟩, ?_⟩
  rw [Int.toNat_natCast, sliceAddr_own hlt', sliceAddr_zero, Nat.sub_zero, Nat.sub_zero, Nat.mul_one]
  have d4 : Keep w4 w4.drew := Mod.drew (Mod.refl _ w4)
  have o4d := o4.mod d4 id
  refine step (m := min k (n - k)) o4d (k4.tr d4) (by omega) rfl rfl (o4d.read fun j v hj => ?_) fun w5 o5 k5 => ?_
  ·rw [List.getElem?_replicate] at hj
   split at hj
   ·rw [Nat.zero_add, List.getElem?_append_left (by simp; omega), List.getElem?_replicate, if_pos (by omega)]; exact hj
   ·cases hj
  ·rw [w64 (n := (k : Int) + ((min k (n - k) : Nat) : Int)) (by omega) (by omega), show (k : Int) + ((min k (n - k) : Nat) : Int) = ((k + min k (n - k) : Nat) : Int) by omega]
   exact hX (n - (k + min k (n - k))) _ _ (by omega) ⟨k + min k (n - k), by omega, by omega, rfl, rfl, o5, k5⟩
 ·have : k = n := by omega
  subst this
  rw [Nat.sub_self, List.replicate_zero, List.append_nil] at o4
  exact fin w4 o4 k4
structure GSep (W : World) (Z b1 b5 r g1 B : Nat) (s1 s2 : Sl) : Prop where
 s1b : s1.b = some ⟨g1, 0, none⟩
 low : W.heap.size ≤ b1 ∧ W.heap.size ≤ b5 ∧ W.heap.size ≤ r ∧ W.heap.size ≤ g1 ∧ ∀ b, s2.b = some b → W.heap.size ≤ b.block
 high : b1 < Z ∧ b5 < Z ∧ r < Z ∧ g1 < Z ∧ ∀ b, s2.b = some b → b.block < Z
 ne : b1 ≠ b5 ∧ b1 ≠ r ∧ b1 ≠ g1 ∧ b5 ≠ r ∧ b5 ≠ g1 ∧ r ≠ g1
 ne2 : ∀ b, s2.b = some b → b.block ≠ b1 ∧ b.block ≠ b5 ∧ b.block ≠ r ∧ b.block ≠ g1
def SepK (W : World) (b1 b5 r g1 : Nat) (s2 : Sl) (k : Nat) : Prop := W.heap.size ≤ k ∧ k ≠ b1 ∧ k ≠ b5 ∧ k ≠ r ∧ k ≠ g1 ∧ ∀ b, s2.b = some b → k ≠ b.block
theorem GSep.new {W : World} {Z b1 b5 r g1 B : Nat} {s1 s2 : Sl} (h : GSep W Z b1 b5 r g1 B s1 s2) {k : Nat} (hk : Z ≤ k) : SepK W b1 b5 r g1 s2 k := by
 obtain ⟨h1, h2, h3, h4, h5⟩ := h.high
 have := h.low.1
 exact ⟨by omega, by omega, by omega, by omega, by omega, fun b hb e => by have := h5 b hb; omega⟩
structure GSt (W : World) (Z b1 b5 r g1 B : Nat) (s1 s2 : Sl) (w : World) (H : HS) (q : List It) (ds bs : List Int) (kn : Int → Option Int) : Prop where
 hp : HeapAny w H q
 hg : H.g = B
 mp : ∃ nm, MapF w r ekI knI kn nm
 v1 : Vec w tInt 1 eI s1 ds
 v2 : Vec w tInt 1 eI s2 bs
 o1 : Own w b1 tTree [sv ⟨none, 0, 0⟩, sv ⟨none, 0, 0⟩]
 o5 : Own w b5 tTree [sv s1, sv s2]
 kp : Keep W w
 sz : Z ≤ w.heap.size
 sep : ∀ k, H.has k → SepK W b1 b5 r g1 s2 k
section
variable {W : World} {Z b1 b5 r g1 B : Nat} {s1 s2 : Sl} {w : World} {H : HS} {q : List It} {ds bs : List Int} {kn : Int → Option Int}
theorem GSt.keep {w' : World} (h : GSt W Z b1 b5 r g1 B s1 s2 w H q ds bs kn) (k : Keep w w') : GSt W Z b1 b5 r g1 B s1 s2 w' H q ds bs kn :=
 ⟨h.hp.keep k, h.hg, h.mp.imp fun _ m => m.mod k id, h.v1.mod k fun _ _ => id, h.v2.mod k fun _ _ => id, h.o1.mod k id, h.o5.mod k id, h.kp.tr k, Nat.le_trans h.sz k.size, h.sep⟩
theorem GSt.heap {w' : World} {H' : HS} {q' : List It} (S : GSep W Z b1 b5 r g1 B s1 s2) (h : GSt W Z b1 b5 r g1 B s1 s2 w H q ds bs kn) (hp : HeapIs w' H' q') (hg : H'.g = H.g) (m : Mod H.has w w') (f : ∀ k, H'.has k → H.has k ∨ w.heap.size ≤ k) : GSt W Z b1 b5 r g1 B s1 s2 w' H' q' ds bs kn := by
 refine ⟨.inl hp, hg.trans h.hg, h.mp.imp fun _ mm => mm.mod m fun hk => (h.sep r hk).2.2.2.1 rfl, h.v1.mod m fun a ha hk => ?_, h.v2.mod m fun a ha hk => (h.sep _ hk).2.2.2.2.2 a ha rfl, h.o1.mod m fun hk => (h.sep _ hk).2.1 rfl, h.o5.mod m fun hk => (h.sep _ hk).2.2.1 rfl, h.kp.fresh m fun k hk => (h.sep k hk).1, Nat.le_trans h.sz m.size, fun k hk => ?_⟩
 ·rw [S.s1b] at ha; cases ha; exact (h.sep _ hk).2.2.2.2.1 rfl
 ·rcases f k hk with h1 | h1
  ·exact h.sep k h1
  ·exact S.new (Nat.le_trans h.sz h1)
theorem GSt.map {w' : World} {kn' : Int → Option Int} (S : GSep W Z b1 b5 r g1 B s1 s2) (h : GSt W Z b1 b5 r g1 B s1 s2 w H q ds bs kn) (m : Mod (fun k => k = r) w w') (mp : ∃ nm, MapF w' r ekI knI kn' nm) : GSt W Z b1 b5 r g1 B s1 s2 w' H q ds bs kn' := by
 have ne := S.ne
 refine ⟨h.hp.mod m fun k hk e => (h.sep k hk).2.2.2.1 e, h.hg, mp, h.v1.mod m fun a ha e => ?_, h.v2.mod m fun a ha e => (S.ne2 a ha).2.2.1 e, h.o1.mod m fun e => ?_, h.o5.mod m fun e => ?_, h.kp.fresh m fun k e => ?_, Nat.le_trans h.sz m.size, h.sep⟩
 ·rw [S.s1b] at ha; cases ha; exact ne.2.2.2.2.2 (Eq.symm e)
 ·exact ne.2.1 e
 ·exact ne.2.2.2.1 e
 ·rw [show k = r from e]; exact S.low.2.2.1
theorem GSt.cells (h : GSt W Z b1 b5 r g1 B s1 s2 w H q ds bs kn) : w.cell? ((⟨b5, 0, none⟩ : Addr).add 0) = some (sv s1) ∧ w.cell? ((⟨b5, 0, none⟩ : Addr).add 1) = some (sv s2) := by
 refine ⟨?_, ?_⟩ <;> rw [addr_lit, h.o5.cell] <;> rfl
end
theorem tree_store {w : World} {g : Nat} {cs : List Value} {a b : Sl} {K : World → Prop} (h : Own w g tTree cs) (hl : cs.length = 2) (hK : ∀ w', Own w' g tTree [sv a, sv b] → Mod (fun k => k = g) w w' → w'.heap.size = w.heap.size → K w') :
  storeD Tryz.prog tTree ⟨g, 0, none⟩ (Value.agg #[Value.slice a.b a.l a.c, Value.slice b.b b.l b.c]) w K := by
 refine storeD_i h size_Tree (by simp [Value.cells, hl]) (by simp [Value.cells, Value.oneCell']) fun w' ho hm hz => hK w' ?_ hm hz
 have : cs.take 0 ++ (Value.agg #[Value.slice a.b a.l a.c, Value.slice b.b b.l b.c]).cells.toList ++ cs.drop (0 + (Value.agg #[Value.slice a.b a.l a.c, Value.slice b.b b.l b.c]).cells.size) = [sv a, sv b] := by
  simp [Value.cells, List.drop_of_length_le (show cs.length ≤ 2 by omega)]
 rwa [this] at ho
theorem grow_i {HL : LevS} {n : Nat} {A : List Arc} {R : List Int} {from_ : Sl} {fs : List Int} {arcs end_ : Value} {nx : Int → List Arc} {en : Arc → Int} {W : World} {Q : (Sl × Sl × Unit) → World → Prop} (h : LevIs W HL n A R) (hn : n ≤ 51) (hf : Rd W from_ 1 eI fs) (hfl : fs.length ≤ 1000)
  (hN : NxOk n (inSrc n fs) nx en) (hnl : ∀ v, (nx v).length ≤ 100000)
  (harcs : ∀ v w (K : Value → World → Prop), LevIs w HL n A R → (∀ s w', Vec w' tArc 4 eArc s (nx v) → Keep w w' → (∀ b, s.b = some b → w.heap.size ≤ b.block) → K (.slice s.b s.l s.c) w') → callV Tryz.prog arcs [.int .i64 v] w K)
  (hend : ∀ e w (K : Value → World → Prop), (∀ w', Keep w w' → K (.int .i64 (en e)) w') → callV Tryz.prog end_ [arcV e] w K)
  (hQ : ∀ s1 s2 ds bs w', Grown n (inSrc n fs) nx en ds bs → Vec w' tInt 1 eI s1 ds → Vec w' tInt 1 eI s2 bs → Keep W w' → (∀ b, s1.b = some b → W.heap.size ≤ b.block) → (∀ b, s2.b = some b → W.heap.size ≤ b.block) → Q (s1, s2, ()) w') :
  F_search_grow (some ⟨HL.gl, 0, none⟩) from_ arcs end_ W Q := by
 unfold F_search_grow
 refine alloc_i fun w1 o1 k1 z1 => ?_
 refine cond_i (fun h => by simp at h) (fun _ => ?_)
 refine alloc_i fun w3 o3 k3 z3 => ?_
 have K3 := k1.tr k3
 refine onSome_i rfl (ld1_i (k := .ptr) (some ⟨HL.N.g, 0, none⟩) (h.keep K3).c0 (Len_i (h.keep K3).net ?_))
 refine Repeat_i o3 hn fun w5 v5 k5 => ?_
 refine CloneI_i (v5.rd lenI) (by simp; omega) fun s2 w6 v6 k6 f6 => ?_
 have z5 : w3.heap.size < w5.heap.size := v5.lt rfl
 have z6 := k6.size
 refine mapNew_i (ek := ekI) (kn := knI) fun hm k7 => ?_
 have z7 : (w6.alloc (.map #[] 0)).heap.size = w6.heap.size + 1 := by simp
 generalize w6.alloc (.map #[] 0) = w7 at *
 refine alloc_i fun w8 o8 k8 z8 => alloc_i fun w9 o9 k9 z9 => ?_
 refine tree_store (a := ⟨some ⟨w3.heap.size, 0, none⟩, n, n⟩) (b := s2) o9 rfl fun w10 o10 m10 z10 => ?_
 generalize hs1 : (⟨some ⟨w3.heap.size, 0, none⟩, n, n⟩ : Sl) = s1 at *
 have s1b : s1.b = some ⟨w3.heap.size, 0, none⟩ := by rw [← hs1]
 have f6' : ∀ b, s2.b = some b → w5.heap.size ≤ b.block ∧ b.block < w6.heap.size := fun b hb => ⟨f6 b hb, v6.lt hb⟩
 have S : GSep W w10.heap.size W.heap.size w8.heap.size w6.heap.size w3.heap.size w7.heap.size s1 s2 := by
  refine ⟨s1b, ⟨by omega, by omega, by omega, by omega, fun b hb => by have := f6' b hb; omega⟩, ⟨by omega, by omega, by omega, by omega, fun b hb => by have := f6' b hb; omega⟩, ⟨by omega, by omega, by omega, by omega, by omega, by omega⟩, fun b hb => by have := f6' b hb; omega⟩
 have k910 : Keep w8 w10 := k9.fresh m10 fun k e => by rw [show k = _ from e]; exact Nat.le_refl _
 have K10 : Keep w6 w10 := (k7.tr k8).tr k910
 have KW : Keep W w10 := ((K3.tr k5).tr k6).tr K10
 have St0 : GSt W w10.heap.size W.heap.size w8.heap.size w6.heap.size w3.heap.size w7.heap.size s1 s2 w10 ⟨w7.heap.size, w7.heap.size, ⟨none, 0, 0⟩⟩ [] (List.replicate n (-1)) (List.replicate n (-1)) (fun _ => none) := by
  refine ⟨.inr ⟨rfl, rfl, rfl, o8.mod k910 id⟩, rfl, ⟨0, hm.mod (k8.tr k910) id⟩, (v5.mod k6 fun _ _ => id).mod K10 (fun _ _ => id), v6.mod K10 fun _ _ => id, ((((o1.mod k3 id).mod k5 id).mod k6 id).mod K10 id), o10, KW, Nat.le_refl _, fun k hk => ?_⟩
  have : k = w7.heap.size := by
   rcases hk with hk | hk | ⟨a, ha, _⟩
   ·exact hk
   ·exact hk
   ·cases ha
  subst this
  exact ⟨by omega, by omega, by omega, by omega, by omega, fun b hb => by have := f6' b hb; omega⟩
 clear o1 o3 v5 v6 f6 f6' hm o8 o9 o10 m10 k910 K10 k9 k8 k7 k6 k5 k3 K3 k1
 generalize w10.heap.size = Z at *
 obtain ⟨b1, hb1⟩ : ∃ b1, b1 = W.heap.size := ⟨_, rfl⟩
 rw [← hb1] at S St0 ⊢
 generalize w8.heap.size = b5 at *
 generalize w6.heap.size = r at *
 generalize w3.heap.size = g1 at *
 generalize w7.heap.size = B at *
 clear z1 z3 z5 z6 z7 z8 z9 z10 hs1
 refine loop_i (fun c t w11 => ∃ (i : Nat) (H : HS) (q : List It) (kn : Int → Option Int), i ≤ fs.length ∧ c = fs.length - i ∧ t = ((i : Int), ()) ∧ GSt W Z b1 b5 r g1 B s1 s2 w11 H q (List.replicate n (-1)) (List.replicate n (-1)) kn ∧ One q ∧ QSrt q ∧
   (∀ y ∈ q, y.key = 0 ∧ inSrc n fs y.id ∧ kn y.id = some (-1)) ∧ (∀ j, j < i → ∀ v, fs[j]? = some v → 0 ≤ v → v < n → ∃ y ∈ q, y.id = v)) fs.length
  ⟨0, _, [], _, Nat.zero_le _, rfl, rfl, St0, (fun x hx => by cases hx), List.Pairwise.nil, (fun y hy => by cases hy), fun j hj => by omega⟩ ?_
 rintro c t w11 ⟨i, H, q, kn, hi, rfl, rfl, st, hone, hsrt, hq, hall⟩ X hX
 dsimp only
 have qlen : q.length ≤ n := one_len (qsrt_nodup hsrt) hone fun y hy => (hq y hy).2.1.2
 refine cond_d (fun hlt => ?_) (fun hge => ?_)
 ·have hfr := hf.len
  have hi' : i < fs.length := by omega
  have hget := List.getElem?_eq_getElem hi'
  have hmem := List.getElem_mem hi'
  generalize fs[i] = v at *
  obtain ⟨p, hp, hc⟩ := rd_cell (k := .int .i64) (e := fun x => x) (hf.mod st.kp eI_ne fun _ _ => id) hget
  rw [Int.toNat_natCast]
  refine ⟨⟨by omega, hlt⟩, onSome_i hp (ld1_i (k := .int .i64) v hc ?_)⟩
  have skip : ¬ (0 ≤ v ∧ v < n) → X (IntKind.wrap .i64 ((i : Int) + 1), ()) w11 := fun hno => by
   rw [wi_ i (by omega)]
   refine hX _ _ _ (by omega) ⟨i + 1, H, q, kn, hi', rfl, rfl, st, hone, hsrt, hq, fun j hj u hu u0 u1 => ?_⟩
   rcases Nat.lt_or_ge j i with hji | hji
   ·exact hall j hji u hu u0 u1
   ·have : j = i := by omega
    subst this
    rw [hget] at hu; cases hu
    exact absurd ⟨u0, u1⟩ hno
  refine cond_d (fun h0 => ?_) (fun h0 => skip fun h => h0 h.1)
  have h0' : 0 ≤ v := h0
  have hL := h.keep st.kp
  refine onSome_i rfl (ld1_i (k := .ptr) (some ⟨HL.N.g, 0, none⟩) hL.c0 (Len_i hL.net ?_))
  refine cond_d (fun h1 => ?_) (fun h1 => skip fun h => h1 h.2)
  have hg := st.hg
  rw [← hg]
  refine Push_i st.hp (by omega) fun w13 H13 h13 g13 m13 f13 => ?_
  have st13 := st.heap S h13 g13 m13 f13
  obtain ⟨nm, hmp⟩ := st13.mp
  refine update_i (kn := knI) und_mIntInt keyInt hmp v (-1 : Int) fun w14 hm14 m14 _ => ?_
  have st14 := st13.map S m14 ⟨_, hm14⟩
  rw [wi_ i (by omega)]
  refine hX _ _ _ (by omega) ⟨i + 1, H13, _, _, hi', rfl, rfl, st14, push_one hone v 0, push_srt hsrt v 0, fun y hy => ?_, fun j hj u hu u0 u1 => ?_⟩
  ·rcases push_mem hy with hyq | rfl
   ·obtain ⟨a1, a2, a3⟩ := hq y hyq
    refine ⟨a1, a2, ?_⟩
    show (if y.id = v then some (-1 : Int) else kn y.id) = some (-1)
    split
    ·rfl
    ·exact a3
   ·exact ⟨rfl, ⟨hmem, h0', h1⟩, if_pos rfl⟩
  ·rcases Nat.lt_or_ge j i with hji | hji
   ·obtain ⟨y, hy, e⟩ := hall j hji u hu u0 u1
    obtain ⟨y', hy', e', _⟩ := push_keep hone (v := v) (k := 0) hy
    exact ⟨y', hy', e'.trans e⟩
   ·have : j = i := by omega
    subst this
    rw [hget] at hu; cases hu
    obtain ⟨y, hy, e, _⟩ := push_low (q := q) (v := v) (k := 0)
    exact ⟨y, hy, e⟩
 have hfr := hf.len
 have ei : i = fs.length := by omega
 subst ei
 have G0 : GInv n (inSrc n fs) nx en (fun _ _ => True) (List.replicate n (-1)) (List.replicate n (-1)) q kn := GInv.start hN hq fun v hv => by
  obtain ⟨j, hj⟩ := List.mem_iff_getElem?.1 hv.1
  exact hall j (List.getElem?_eq_some_iff.1 hj).1 v hj hv.2.1 hv.2.2
 clear hX hq hall qlen
 generalize hds0 : List.replicate n (-1 : Int) = ds0 at *
 have S' := S
 refine loop_i (fun c t w15 => ∃ (H : HS) (q : List It) (kn : Int → Option Int) (ds bs : List Int), c = n - met ds ∧ t = () ∧ GSt W Z b1 b5 r g1 B s1 s2 w15 H q ds bs kn ∧ One q ∧ QSrt q ∧ GInv n (inSrc n fs) nx en (fun _ _ => True) ds bs q kn) (n - met ds0)
  ⟨H, q, kn, ds0, ds0, rfl, rfl, st, hone, hsrt, G0⟩ ?_
 clear G0 hone hsrt st
 rintro c t w15 ⟨H, q, kn, ds, bs, rfl, rfl, st, hone, hsrt, G⟩ X hX
 have hg := st.hg
 rw [← hg]
 refine Len_h st.hp ?_
 cases q with
 | nil =>
  refine cond_d (fun h => by simp at h) (fun _ => ?_)
  refine ldN_i (l := [.slice, .slice]) (s1, s2, ()) (own_all st.o5) ?_
  refine tree_store (a := s1) (b := s2) st.o1 rfl fun w28 o28 m28 _ => ?_
  refine ldN_i (l := [.slice, .slice]) (s1, s2, ()) (own_all o28) ?_
  refine hQ s1 s2 ds bs w28 (G.done hN) (st.v1.mod m28 fun a ha e => ?_) (st.v2.mod m28 fun a ha e => (S.ne2 a ha).1 e) (st.kp.fresh m28 fun k e => by rw [show k = b1 from e]; exact S.low.1) (fun b hb => ?_) (fun b hb => S.low.2.2.2.2 b hb)
  ·rw [S.s1b] at ha; cases ha; exact S.ne.2.2.1 (Eq.symm e)
  ·rw [S.s1b] at hb; cases hb; exact S.low.2.2.2.1
 | cons x q =>
  refine cond_d (fun _ => ?_) (fun h => absurd (by simp only [List.length_cons]; omega) h)
  obtain ⟨x0, x1, hxd, hxg, hxb, u, hu, _⟩ := G.qi x (by simp)
  have hxk := (hxg.rng hN).2.2
  have hqlen : (x :: q).length ≤ n := one_len (qsrt_nodup hsrt) hone fun y hy => ⟨(G.qi y hy).1, (G.qi y hy).2.1⟩
  have hp : HeapIs w15 H (x :: q) := st.hp.resolve_right fun h => by cases h.1
  refine Pop_i hp (by simp at hqlen; omega) fun w17 H17 h17 g17 f17 m17 => ?_
  have d17 : Keep w17 w17.drew := Mod.drew (Mod.refl _ w17)
  have st17 := (st.heap S h17 g17 m17 fun k hk => .inl ((f17 k).1 hk)).keep d17
  obtain ⟨G1, hmet⟩ := G.pop hN hsrt hone hu
  have hml := met_le (ds.set x.id.toNat x.key)
  rw [List.length_set, G.dl] at hml
  refine ld1_i (k := .slice) s1 st17.cells.1 (ld1_i (k := .slice) s2 st17.cells.2 ?_)
  obtain ⟨nm, hmp⟩ := st17.mp
  refine lookup1_i (kn := knI) und_mIntInt keyInt (z := (0 : Int)) zero_int hmp x.id ?_
  rw [hu]
  show _ ∧ _
  have v1l := st17.v1.len
  have v2l := st17.v2.len
  have hdl := G.dl
  have hbl := G.bl
  refine ⟨st17.cells.2, st17.cells.1, ⟨x0, by omega⟩, onSome_i S.s1b ?_⟩
  refine st17.v1.store lenI S.s1b (i := x.id.toNat) (by omega) x.key (v := .int .i64 x.key) rfl size_Int (oneI _) fun w19 v19 m19 z19 => ?_
  have m19' : Mod (fun k => k = g1) w17.drew w19 := m19
  have st19 : GSt W Z b1 b5 r g1 B s1 s2 w19 H17 q (ds.set x.id.toNat x.key) bs kn := by
   refine ⟨st17.hp.mod m19' fun k hk e => (st17.sep k hk).2.2.2.2.1 e, st17.hg, st17.mp.imp fun _ mm => mm.mod m19' fun e => S.ne.2.2.2.2.2 e, v19, st17.v2.mod m19' fun a ha e => (S.ne2 a ha).2.2.2 e, st17.o1.mod m19' fun e => S.ne.2.2.1 e, st17.o5.mod m19' fun e => S.ne.2.2.2.2.1 e, st17.kp.fresh m19' fun k e => by rw [show k = g1 from e]; exact S.low.2.2.2.1, by rw [z19]; exact st17.sz, st17.sep⟩
  obtain ⟨g2, hg2⟩ : ∃ g2, s2.b = some ⟨g2, 0, none⟩ := by
   rcases st19.v2.own with ⟨_, h2⟩ | ⟨g, _, hb, _⟩
   ·have := st19.v2.cap; omega
   ·exact ⟨g, hb⟩
  refine ⟨st19.cells.2, ⟨x0, by omega⟩, onSome_i hg2 ?_⟩
  refine st19.v2.store lenI hg2 (i := x.id.toNat) (by omega) u (v := .int .i64 u) rfl size_Int (oneI _) fun w20 v20 m20 z20 => ?_
  have m20' : Mod (fun k => k = g2) w19 w20 := m20
  have n2 := S.ne2 _ hg2
  have st20 : GSt W Z b1 b5 r g1 B s1 s2 w20 H17 q (ds.set x.id.toNat x.key) (bs.set x.id.toNat u) kn := by
   refine ⟨st19.hp.mod m20' fun k hk e => (st19.sep k hk).2.2.2.2.2 _ hg2 e, st19.hg, st19.mp.imp fun _ mm => mm.mod m20' fun e => n2.2.2.1 e.symm, st19.v1.mod m20' fun a ha e => ?_, v20, st19.o1.mod m20' fun e => n2.1 e.symm, st19.o5.mod m20' fun e => n2.2.1 e.symm, st19.kp.fresh m20' fun k e => by rw [show k = g2 from e]; exact S.low.2.2.2.2 _ hg2, by rw [z20]; exact st19.sz, st19.sep⟩
   rw [S.s1b] at ha; cases ha; exact n2.2.2.2 (Eq.symm e)
  have hdlt : x.id.toNat < ds.length := by omega
  have hself : (ds.set x.id.toNat x.key)[x.id.toNat]? = some x.key := by rw [List.getElem?_set, if_pos rfl, if_pos hdlt]
  have exi : ((x.id.toNat : Nat) : Int) = x.id := Int.toNat_of_nonneg x0
  have hone' : One q := fun a ha b hb => hone a (by simp [ha]) b (by simp [hb])
  have hsrt' : QSrt q := (List.pairwise_cons.1 hsrt).2
  generalize hds' : ds.set x.id.toNat x.key = ds' at *
  generalize bs.set x.id.toNat u = bs' at *
  refine harcs x.id w20 _ (h.keep st20.kp) fun s5 w21 v21 k21 f21 => ⟨s5, rfl, ?_⟩
  have st21 := st20.keep k21
  have l5 := v21.len
  have hxl := hnl x.id
  have fr5 : ∀ b, s5.b = some b → w20.heap.size ≤ b.block ∧ b.block < w21.heap.size := fun b hb => ⟨f21 b hb, v21.lt hb⟩
  refine loop_i (fun c t w22 => ∃ (i : Nat) (H : HS) (q : List It) (kn : Int → Option Int), i ≤ (nx x.id).length ∧ c = (nx x.id).length - i ∧ t = ((i : Int), ()) ∧ GSt W Z b1 b5 r g1 B s1 s2 w22 H q ds' bs' kn ∧ One q ∧ QSrt q ∧
    GInv n (inSrc n fs) nx en (fun v e => v ≠ x.id ∨ e ∈ (nx x.id).take i) ds' bs' q kn ∧ Vec w22 tArc 4 eArc s5 (nx x.id) ∧ (∀ k, H.has k → ∀ b, s5.b = some b → k ≠ b.block) ∧ w21.heap.size ≤ w22.heap.size) (nx x.id).length
   ⟨0, H17, q, kn, Nat.zero_le _, rfl, rfl, st21, hone', hsrt', G1.mono (fun v e _ hh => hh.resolve_right (by simp)), v21, fun k hk b hb e => by have := (fr5 b hb).1; have := st20.hp.lt hk; omega, Nat.le_refl _⟩ ?_
  rintro c t w22 ⟨i, H2, q2, kn2, hi, rfl, rfl, st2, hone2, hsrt2, G2, v22, sp2, z22⟩ Y hY
  dsimp only
  have hq2len : q2.length ≤ n := one_len (qsrt_nodup hsrt2) hone2 fun y hy => ⟨(G2.qi y hy).1, (G2.qi y hy).2.1⟩
  refine cond_d (fun hlt => ?_) (fun hge => ?_)
  ·have hi' : i < (nx x.id).length := by omega
   have hget := List.getElem?_eq_getElem hi'
   have hmem := List.getElem_mem hi'
   have htk : (nx x.id).take (i + 1) = (nx x.id).take i ++ [(nx x.id)[i]] := List.take_succ_eq_append_getElem hi'
   generalize (nx x.id)[i] = e at *
   obtain ⟨e0, e1, ew0, ew1⟩ := hN.arc x.id e hmem
   obtain ⟨p, hp, hh⟩ := rd_tup (v22.rd lenA) hget
   rw [Int.toNat_natCast]
   refine ⟨⟨by omega, hlt⟩, onSome_i hp (ldN_i (tupA e) hh ?_)⟩
   refine arc_copy (x := e) fun w24 k24 o24 _ => ?_
   refine ldN_i (tupA e) (own_all o24) ?_
   refine hend e w24 _ fun w25 k25 => ⟨en e, rfl, ?_⟩
   have k225 := k24.tr k25
   have st25 := st2.keep k225
   have o25 := o24.mod k25 id
   have v25 := v22.mod k225 fun _ _ => id
   have hdl' := G2.dl
   obtain ⟨y, hy⟩ : ∃ y, ds'[(en e).toNat]? = some y := ⟨_, List.getElem?_eq_getElem (show (en e).toNat < ds'.length by omega)⟩
   obtain ⟨pa, hpa, hca⟩ := rd_cell (k := .int .i64) (e := fun x => x) (st25.v1.rd lenI) hy
   have v1l' := st25.v1.len
   have tko : ∀ v' e', e' ∈ nx v' → (v' ≠ x.id ∨ e' ∈ (nx x.id).take (i + 1)) → ((v' ≠ x.id ∨ e' ∈ (nx x.id).take i) ∨ (v' = x.id ∧ e' = e)) := fun v' e' _ hh => by
    rcases hh with h1 | h1
    ·exact .inl (.inl h1)
    ·rw [htk] at h1
     rcases List.mem_append.1 h1 with h2 | h2
     ·exact .inl (.inr h2)
     ·by_cases hv : v' = x.id
      ·exact .inr ⟨hv, by simpa using h2⟩
      ·exact .inl (.inl hv)
   have z25 := k225.size
   refine ld1_i (k := .slice) s1 st25.cells.1 ⟨⟨e0, by omega⟩, onSome_i hpa (ld1_i (k := .int .i64) y hca ?_)⟩
   refine cond_d (fun hneg => ?_) (fun hpos => ?_)
   ·have hy1 : y = -1 := by
     rcases G2.setl _ _ hy with h1 | ⟨h1, _⟩
     ·exact h1
     ·have hneg' : y < 0 := hneg
      omega
    subst hy1
    have hkey : x.key + BW ≤ met ds' * BW := by
     rcases G2.setl _ _ hself with h1 | ⟨_, _, _, h1, _⟩
     ·omega
     ·exact h1
    have hwr : IntKind.wrap .i64 (x.key + e.w) = x.key + e.w := w64 (by simp only [BW] at *; omega) (by simp only [BW] at *; omega)
    refine ld1_i (k := .int .i64) e.w (own_arc o25).2.2.1 ?_
    rw [hwr]
    have hg2' := st25.hg
    rw [hg, ← hg2']
    refine Push_i st25.hp (by omega) fun w26 H26 h26 g26 m26 f26 => ?_
    have st26 := st25.heap S h26 g26 m26 f26
    have G3 := (G2.push hN hone2 (v := x.id.toNat) (d := x.key) (e := e) hself hxk (by rw [exi]; exact hmem) hy)
    rw [exi] at G3
    have G4 := G3.mono (ok' := fun v e => v ≠ x.id ∨ e ∈ (nx x.id).take (i + 1)) tko
    have sp26 : ∀ k, H26.has k → ∀ b, s5.b = some b → k ≠ b.block := fun k hk b hb e => by
     rcases f26 k hk with h1 | h1
     ·exact sp2 k h1 b hb e
     ·have := (fr5 b hb).2; omega
    have v26 := v25.mod m26 fun b hb hk => sp2 _ hk b hb rfl
    have z26 := m26.size
    rw [wi_ i (by omega)]
    have hflag : ∀ b, (pushQ q2 (en e) (x.key + e.w)).2 = b → GInv n (inSrc n fs) nx en (fun v e => v ≠ x.id ∨ e ∈ (nx x.id).take (i + 1)) ds' bs' (pushQ q2 (en e) (x.key + e.w)).1 (knP kn2 b (en e) x.id) := fun b hb => by rw [← hb]; exact G4
    refine cond_i (fun hb => ?_) (fun hb => ?_)
    ·obtain ⟨nm2, hmp2⟩ := st26.mp
     refine update_i (kn := knI) und_mIntInt keyInt hmp2 (en e) x.id fun w27 hm27 m27 z27 => ?_
     have st27 := st26.map S m27 ⟨_, hm27⟩
     refine hY _ _ _ (by omega) ⟨i + 1, H26, _, _, hi', rfl, rfl, st27, push_one hone2 _ _, push_srt hsrt2 _ _, hflag true hb, v26.mod m27 fun b hb' e => ?_, sp26, by omega⟩
     have e' : b.block = r := e
     have := (fr5 b hb').1
     have h1 := S.high.2.2.1
     have h2 := st20.sz
     omega
    ·exact hY _ _ _ (by omega) ⟨i + 1, H26, _, kn2, hi', rfl, rfl, st26, push_one hone2 _ _, push_srt hsrt2 _ _, hflag false hb, v26, sp26, by omega⟩
   ·have hpos' : 0 ≤ y := by have : ¬ y < 0 := hpos; omega
    rw [wi_ i (by omega)]
    exact hY _ _ _ (by omega) ⟨i + 1, H2, q2, kn2, hi', rfl, rfl, st25, hone2, hsrt2, (G2.skip (v := x.id) (e := e) hy hpos').mono tko, v25, sp2, by omega⟩
  ·have ei : i = (nx x.id).length := by omega
   subst ei
   rw [List.take_length] at G2
   refine hX (n - met ds') _ _ (by omega) ⟨H2, q2, kn2, ds', bs', rfl, rfl, st2, hone2, hsrt2, G2.mono fun v e he _ => ?_⟩
   by_cases hv : v = x.id
   ·exact .inr (hv ▸ he)
   ·exact .inl hv
end Go.Proofs.YtjjgcimlmjnaeaaGreat

namespace Go.Proofs.YtjjgcimlmjnaeaaGreat
open Go Go.Den
theorem weight_i {w : World} {t : TurS} {G : Gr} {i : Int} {Q : Int → World → Prop} (h : TurIs w t G) (hi : G.isE i) (hQ : ∀ w', Keep w w' → Q (G.wt i) w') : F_dist_weight (some ⟨t.t, 0, none⟩) i w Q := by
 unfold F_dist_weight
 refine onSome_i rfl (ld1_i (k := .ptr) (some ⟨t.H.g, 0, none⟩) h.cells.1 ?_)
 exact weightAt_i h hi fun a w' hc k _ => ld1_i (k := .int .i64) (G.wt i) hc (hQ w' k)
theorem eB_ne (b : Bool) : eB b ≠ [] := by simp
theorem shutB_ge {c : List Bool} {e : Int} (h : (c.length : Int) ≤ e) : shutB c e = false := by
 unfold shutB
 rw [List.getD_eq_getElem?_getD, List.getElem?_eq_none (by omega)]; rfl
theorem shutB_get {c : List Bool} {e : Int} (h0 : 0 ≤ e) (h : e < c.length) : c[e.toNat]? = some (shutB c e) := by
 have : e.toNat < c.length := by omega
 unfold shutB
 rw [List.getD_eq_getElem?_getD, List.getElem?_eq_getElem this]; rfl
theorem shut_i {w : World} {s : Sl} {c : List Bool} {e : Int} {Q : Bool → World → Prop} (hr : Rd w s 1 eB c) (h0 : 0 ≤ e) (hQ : Q (shutB c e) w) : F_dist_shut s e w Q := by
 unfold F_dist_shut
 have hl := hr.len
 refine cond_d (fun hlt => ?_) (fun hge => by rw [shutB_ge (by omega)] at hQ; exact hQ)
 obtain ⟨p, hp, hc⟩ := rd_cell (k := .bool) (e := fun x => x) hr (shutB_get h0 (by omega))
 exact ⟨⟨h0, hlt⟩, onSome_i hp (ld1_i (k := .bool) (shutB c e) hc hQ)⟩
structure DSt (W w : World) (B g1 : Nat) (s1 : Sl) (H : HS) (q : List It) (ds : List Int) : Prop where
 hp : HeapAny w H q
 hg : H.g = B
 s1b : s1.b = some ⟨g1, 0, none⟩
 v1 : Vec w tInt 1 eI s1 ds
 kp : Keep W w
 sep : ∀ k, H.has k → W.heap.size ≤ k ∧ k ≠ g1
 low : W.heap.size ≤ g1
section
variable {W w : World} {B g1 : Nat} {s1 : Sl} {H : HS} {q : List It} {ds : List Int}
theorem DSt.keep {w' : World} (h : DSt W w B g1 s1 H q ds) (k : Keep w w') : DSt W w' B g1 s1 H q ds := ⟨h.hp.keep k, h.hg, h.s1b, h.v1.mod k fun _ _ => id, h.kp.tr k, h.sep, h.low⟩
theorem DSt.heap {w' : World} {H' : HS} {q' : List It} (h : DSt W w B g1 s1 H q ds) (hp : HeapIs w' H' q') (hg : H'.g = H.g) (m : Mod H.has w w') (f : ∀ k, H'.has k → H.has k ∨ w.heap.size ≤ k) : DSt W w' B g1 s1 H' q' ds := by
 have hg1 := h.v1.lt h.s1b
 have hk := h.kp.size
 refine ⟨.inl hp, hg.trans h.hg, h.s1b, h.v1.mod m fun a ha hk => ?_, h.kp.fresh m fun k hk => (h.sep k hk).1, fun k hk' => ?_, h.low⟩
 ·rw [h.s1b] at ha; cases ha; exact (h.sep _ hk).2 rfl
 ·rcases f k hk' with h1 | h1
  ·exact h.sep k h1
  ·have hg2 : g1 < w.heap.size := hg1
   exact ⟨by omega, by omega⟩
end
theorem To_i {t : TurS} {G : Gr} {node : Int} {closed : Sl} {c : List Bool} {W : World} {Q : Sl → World → Prop} (h : TurIs W t G) (hN : G.isN node) (hc : Rd W closed 1 eB c)
  (hQ : ∀ s ds w', G.far c node ds → Vec w' tInt 1 eI s ds → Keep W w' → (∀ b, s.b = some b → W.heap.size ≤ b.block) → (∀ (v : Nat) x, ds[v]? = some x → -1 ≤ x ∧ x ≤ 51 * BW) → Q s w') : F_dist_To (some ⟨t.t, 0, none⟩) node closed W Q := by
 unfold F_dist_To
 have ok := h.gra.ok
 have hm := ok.m1
 have hnx := ok.nxOk c node
 refine cond_i (fun h => by simp at h) (fun _ => cond_d (fun h => by omega) (fun _ => ?_))
 refine onSome_i rfl (ld1_i (k := .ptr) (some ⟨t.H.g, 0, none⟩) h.cells.1 (Nodes_i h.gra (cond_d (fun h => by omega) (fun _ => ?_))))
 unfold F_dist_none
 refine alloc_i fun w1 o1 k1 z1 => ?_
 have h1 := h.keep k1
 refine onSome_i rfl (ld1_i (k := .ptr) (some ⟨t.H.g, 0, none⟩) h1.cells.1 (Edges_i h1.gra ?_))
 refine Repeat_i o1 hm.2 fun w3 v3 k3 => ?_
 generalize hs1 : (⟨some ⟨w1.heap.size, 0, none⟩, G.m, G.m⟩ : Sl) = s1 at *
 have s1b : s1.b = some ⟨w1.heap.size, 0, none⟩ := by rw [← hs1]
 refine alloc_i fun w4 o4 k4 z4 => ?_
 have K4 := (k1.tr k3).tr k4
 have h4 := h.keep K4
 refine onSome_i rfl (ld1_i (k := .ptr) (some ⟨t.H.g, 0, none⟩) h4.cells.1 ?_)
 refine gIn_i h4.gra fun s2 w5 v5 k5 f5 => ?_
 have K5 := K4.tr k5
 have z13 := v3.lt s1b
 have zW := k1.size
 have z3 := k3.size
 have hl13 : w1.heap.size < w3.heap.size := z13
 have St0 : DSt W w5 w3.heap.size w1.heap.size s1 ⟨w3.heap.size, w3.heap.size, ⟨none, 0, 0⟩⟩ [] (List.replicate G.m (-1)) := by
  refine ⟨.inr ⟨rfl, rfl, rfl, o4.mod k5 id⟩, rfl, s1b, (v3.mod k4 fun _ _ => id).mod k5 fun _ _ => id, K5, fun k hk => ?_, by omega⟩
  have : k = w3.heap.size := by
   rcases hk with hk | hk | ⟨a, ha, _⟩
   ·exact hk
   ·exact hk
   ·cases ha
  subst this
  exact ⟨by omega, by omega⟩
 have il := G.inN_len node
 have hsrc : ∀ e, e ∈ G.inN node ↔ G.src node e := fun e => G.mem_inN
 have l2 := v5.len
 have f5' : ∀ b, s2.b = some b → w4.heap.size ≤ b.block ∧ b.block < w5.heap.size := fun b hb => ⟨f5 b hb, v5.lt hb⟩
 clear o1 v3 o4 f5
 generalize hB : w3.heap.size = B at *
 generalize hg1 : w1.heap.size = g1 at *
 refine loop_i (fun c' t' w6 => ∃ (i : Nat) (H : HS) (q : List It), i ≤ (G.inN node).length ∧ c' = (G.inN node).length - i ∧ t' = ((i : Int), ()) ∧ DSt W w6 B g1 s1 H q (List.replicate G.m (-1)) ∧ One q ∧ QSrt q ∧ Vec w6 tInt 1 eI s2 (G.inN node) ∧ (∀ k, H.has k → ∀ b, s2.b = some b → k ≠ b.block) ∧
   (∀ y ∈ q, y.key = 0 ∧ G.src node y.id) ∧ (∀ j, j < i → ∀ v, (G.inN node)[j]? = some v → ∃ y ∈ q, y.id = v)) (G.inN node).length
  ⟨0, _, [], Nat.zero_le _, rfl, rfl, St0, (fun x hx => by cases hx), List.Pairwise.nil, v5, fun k hk b hb e => ?_, (fun y hy => by cases hy), fun j hj => by omega⟩ ?_
 ·have hkb : k = B := by
   rcases hk with hk | hk | ⟨a, ha, _⟩
   ·exact hk
   ·exact hk
   ·cases ha
  have := f5' b hb
  omega
 rintro c' t' w6 ⟨i, H, q, hi, rfl, rfl, st, hone, hsrt, v6, hs2, hq, hall⟩ X hX
 dsimp only
 have qlen : q.length ≤ G.m := one_len (qsrt_nodup hsrt) hone fun y hy => (hq y hy).2.1
 refine cond_d (fun hlt => ?_) (fun hge => ?_)
 ·have hi' : i < (G.inN node).length := by omega
  have hget := List.getElem?_eq_getElem hi'
  have hmem := List.getElem_mem hi'
  generalize (G.inN node)[i] = v at *
  obtain ⟨p, hp, hcp⟩ := rd_cell (k := .int .i64) (e := fun x => x) (v6.rd lenI) hget
  rw [Int.toNat_natCast]
  refine ⟨⟨by omega, hlt⟩, onSome_i hp (ld1_i (k := .int .i64) v hcp ?_)⟩
  have hg := st.hg
  rw [← hg]
  refine Push_i st.hp (by omega) fun w7 H7 h7 g7 m7 f7 => ?_
  have st7 := st.heap h7 g7 m7 f7
  rw [wi_ i (by omega)]
  refine hX _ _ _ (by omega) ⟨i + 1, H7, _, hi', rfl, rfl, st7, push_one hone v 0, push_srt hsrt v 0, v6.mod m7 fun b hb hk => hs2 _ hk b hb rfl, fun k hk b hb e => ?_, fun y hy => ?_, fun j hj u hu => ?_⟩
  ·rcases f7 k hk with h1 | h1
   ·exact hs2 k h1 b hb e
   ·have := v6.lt hb; omega
  ·rcases push_mem hy with hyq | rfl
   ·exact hq y hyq
   ·exact ⟨rfl, (hsrc v).1 hmem⟩
  ·rcases Nat.lt_or_ge j i with hji | hji
   ·obtain ⟨y, hy, e⟩ := hall j hji u hu
    obtain ⟨y', hy', e', _⟩ := push_keep hone (v := v) (k := 0) hy
    exact ⟨y', hy', e'.trans e⟩
   ·have : j = i := by omega
    subst this
    rw [hget] at hu; cases hu
    obtain ⟨y, hy, e, _⟩ := push_low (q := q) (v := v) (k := 0)
    exact ⟨y, hy, e⟩
 have ei : i = (G.inN node).length := by omega
 subst ei
 have G0 : GInv G.m (G.src node) (G.nx c) (fun e => e.f) (fun _ _ => True) (List.replicate G.m (-1)) (List.replicate G.m (-1)) q (fun _ => some (-1)) := GInv.start hnx (fun y hy => ⟨(hq y hy).1, (hq y hy).2, rfl⟩) fun v hv => by
  obtain ⟨j, hj⟩ := List.mem_iff_getElem?.1 ((hsrc v).2 hv)
  exact hall j (List.getElem?_eq_some_iff.1 hj).1 v hj
 clear hX hq hall qlen hge hi St0 v6 hs2 f5' v5 l2
 generalize hds0 : List.replicate G.m (-1 : Int) = ds0 at *
 refine loop_i (fun c' t' w15 => ∃ (H : HS) (q : List It) (kn : Int → Option Int) (ds bs : List Int), c' = G.m - met ds ∧ t' = () ∧ DSt W w15 B g1 s1 H q ds ∧ One q ∧ QSrt q ∧ GInv G.m (G.src node) (G.nx c) (fun e => e.f) (fun _ _ => True) ds bs q kn) (G.m - met ds0)
  ⟨H, q, _, ds0, ds0, rfl, rfl, st, hone, hsrt, G0⟩ ?_
 clear G0 hone hsrt st
 rintro c' t' w15 ⟨H, q, kn, ds, bs, rfl, rfl, st, hone, hsrt, GI⟩ X hX
 have hg := st.hg
 rw [← hg]
 refine Len_h st.hp ?_
 cases q with
 | nil =>
  refine cond_d (fun h => by simp at h) (fun _ => ?_)
  have gr := GI.done hnx
  refine hQ s1 ds w15 gr.far st.v1 st.kp (fun b hb => ?_) fun v x hx => ?_
  ·rw [st.s1b] at hb; cases hb; exact st.low
  ·have := gr.bnd v x hx
   simp only [BW] at *; omega
 | cons x q =>
  refine cond_d (fun _ => ?_) (fun h => absurd (by simp only [List.length_cons]; omega) h)
  obtain ⟨x0, x1, hxd, hxg, hxb, u, hu, _⟩ := GI.qi x (by simp)
  have hxE : G.isE x.id := ⟨x0, x1⟩
  have hxk := (hxg.rng hnx).2.2
  have hqlen : (x :: q).length ≤ G.m := one_len (qsrt_nodup hsrt) hone fun y hy => ⟨(GI.qi y hy).1, (GI.qi y hy).2.1⟩
  have hp : HeapIs w15 H (x :: q) := st.hp.resolve_right fun h => by cases h.1
  refine Pop_i hp (by simp at hqlen; omega) fun w17 H17 h17 g17 f17 m17 => ?_
  have st17 := st.heap h17 g17 m17 fun k hk => .inl ((f17 k).1 hk)
  obtain ⟨G1, hmet⟩ := GI.pop hnx hsrt hone hu
  have hml := met_le (ds.set x.id.toNat x.key)
  rw [List.length_set, GI.dl] at hml
  have v1l := st17.v1.len
  have hdl := GI.dl
  refine ⟨⟨x0, by omega⟩, onSome_i st17.s1b ?_⟩
  refine st17.v1.store lenI st17.s1b (i := x.id.toNat) (by omega) x.key (v := .int .i64 x.key) rfl size_Int (oneI _) fun w19 v19 m19 z19 => ?_
  have m19' : Mod (fun k => k = g1) w17 w19 := m19
  have st19 : DSt W w19 B g1 s1 H17 q (ds.set x.id.toNat x.key) := ⟨st17.hp.mod m19' fun k hk e => (st17.sep k hk).2 e, st17.hg, st17.s1b, v19, st17.kp.fresh m19' fun k e => by rw [show k = g1 from e]; exact st17.low, st17.sep, st17.low⟩
  have hdlt : x.id.toNat < ds.length := by omega
  have hself : (ds.set x.id.toNat x.key)[x.id.toNat]? = some x.key := by rw [List.getElem?_set, if_pos rfl, if_pos hdlt]
  have exi : ((x.id.toNat : Nat) : Int) = x.id := Int.toNat_of_nonneg x0
  have hone' : One q := fun a ha b hb => hone a (by simp [ha]) b (by simp [hb])
  have hsrt' : QSrt q := (List.pairwise_cons.1 hsrt).2
  generalize hds' : ds.set x.id.toNat x.key = ds' at *
  generalize bs.set x.id.toNat u = bs' at *
  refine shut_i (hc.mod st19.kp eB_ne fun _ _ => id) x0 ?_
  refine cond_i (fun hsh => ?_) (fun hsh => ?_)
  ·refine hX (G.m - met ds') _ _ (by omega) ⟨H17, q, kn, ds', bs', rfl, rfl, st19, hone', hsrt', G1.mono fun v e he _ ev => ?_⟩
   rw [ev] at he
   have := (G.mem_nx.1 he).1
   rw [hsh] at this; cases this
  refine Prev_i (h.keep st19.kp) fun s3 w21 v21 k21 f21 => ?_
  have st21 := st19.keep k21
  have l3 := v21.len
  have hpl := G.prev_len x.id
  have hnxe : G.nx c x.id = (G.prevL x.id).map fun a => (⟨a, x.id, G.wt x.id, -1⟩ : Arc) := by unfold Gr.nx; rw [if_neg (by rw [hsh]; simp)]
  have hpE : ∀ p ∈ G.prevL x.id, G.isE p := fun p hp => (G.turn_iff.1 (G.mem_prev.1 hp)).1
  have hpN : ∀ p ∈ G.prevL x.id, (⟨p, x.id, G.wt x.id, -1⟩ : Arc) ∈ G.nx c x.id := fun p hp => by rw [hnxe]; exact List.mem_map.2 ⟨p, hp, rfl⟩
  have hw1 := ok.w1 hxE
  have fr3 : ∀ b, s3.b = some b → w19.heap.size ≤ b.block ∧ b.block < w21.heap.size := fun b hb => ⟨f21 b hb, v21.lt hb⟩
  refine loop_i (fun c' t' w22 => ∃ (i : Nat) (H : HS) (q : List It) (kn : Int → Option Int), i ≤ (G.prevL x.id).length ∧ c' = (G.prevL x.id).length - i ∧ t' = ((i : Int), ()) ∧ DSt W w22 B g1 s1 H q ds' ∧ One q ∧ QSrt q ∧
    GInv G.m (G.src node) (G.nx c) (fun e => e.f) (fun v e => v ≠ x.id ∨ e.f ∈ (G.prevL x.id).take i) ds' bs' q kn ∧ Vec w22 tInt 1 eI s3 (G.prevL x.id) ∧ (∀ k, H.has k → ∀ b, s3.b = some b → k ≠ b.block)) (G.prevL x.id).length
   ⟨0, H17, q, kn, Nat.zero_le _, rfl, rfl, st21, hone', hsrt', G1.mono (fun v e _ hh => hh.resolve_right (by simp)), v21, fun k hk b hb e => by have := (fr3 b hb).1; have := st19.hp.lt hk; omega⟩ ?_
  rintro c' t' w22 ⟨i, H2, q2, kn2, hi, rfl, rfl, st2, hone2, hsrt2, G2, v22, sp2⟩ Y hY
  dsimp only
  have hq2len : q2.length ≤ G.m := one_len (qsrt_nodup hsrt2) hone2 fun y hy => ⟨(G2.qi y hy).1, (G2.qi y hy).2.1⟩
  refine cond_d (fun hlt => ?_) (fun hge => ?_)
  ·have hi' : i < (G.prevL x.id).length := by omega
   have hget := List.getElem?_eq_getElem hi'
   have hmem := List.getElem_mem hi'
   have htk : (G.prevL x.id).take (i + 1) = (G.prevL x.id).take i ++ [(G.prevL x.id)[i]] := List.take_succ_eq_append_getElem hi'
   generalize (G.prevL x.id)[i] = p at *
   have hp0 := hpE p hmem
   have hpn := hpN p hmem
   obtain ⟨pa, hpa, hca⟩ := rd_cell (k := .int .i64) (e := fun x => x) (v22.rd lenI) hget
   have hdl' := G2.dl
   obtain ⟨y, hy⟩ : ∃ y, ds'[p.toNat]? = some y := ⟨_, List.getElem?_eq_getElem (show p.toNat < ds'.length by have := hp0.2; omega)⟩
   obtain ⟨pb, hpb, hcb⟩ := rd_cell (k := .int .i64) (e := fun x => x) (st2.v1.rd lenI) hy
   have v1l' := st2.v1.len
   rw [Int.toNat_natCast]
   refine ⟨⟨by omega, hlt⟩, onSome_i hpa (ld1_i (k := .int .i64) p hca ⟨⟨hp0.1, by have := hp0.2; omega⟩, onSome_i hpb (ld1_i (k := .int .i64) y hcb ?_)⟩)⟩
   have tko : ∀ v' (e' : Arc), e' ∈ G.nx c v' → (v' ≠ x.id ∨ e'.f ∈ (G.prevL x.id).take (i + 1)) → ((v' ≠ x.id ∨ e'.f ∈ (G.prevL x.id).take i) ∨ (v' = x.id ∧ e' = ⟨p, x.id, G.wt x.id, -1⟩)) := fun v' e' he' hh => by
    by_cases hv : v' = x.id
    ·rcases hh with h1 | h1
     ·exact absurd hv h1
     ·rw [htk] at h1
      rcases List.mem_append.1 h1 with h2 | h2
      ·exact .inl (.inr h2)
      ·refine .inr ⟨hv, ?_⟩
       have h3 : e'.f = p := by simpa using h2
       rw [hv] at he'
       obtain ⟨_, _, h4⟩ := G.mem_nx.1 he'
       rw [h4, h3]
    ·exact .inl (.inl hv)
   refine cond_d (fun hneg => ?_) (fun hpos => ?_)
   ·have hy1 : y = -1 := by
     rcases G2.setl _ _ hy with h1 | ⟨h1, _⟩
     ·exact h1
     ·have hneg' : y < 0 := hneg
      omega
    subst hy1
    have hkey : x.key + BW ≤ met ds' * BW := by
     rcases G2.setl _ _ hself with h1 | ⟨_, _, _, h1, _⟩
     ·omega
     ·exact h1
    have hwr : IntKind.wrap .i64 (x.key + G.wt x.id) = x.key + G.wt x.id := w64 (by simp only [BW] at *; omega) (by simp only [BW] at *; omega)
    refine weight_i (h.keep st2.kp) hxE fun w23 k23 => ?_
    have st23 := st2.keep k23
    rw [hwr]
    have hg2' := st23.hg
    rw [hg, ← hg2']
    refine Push_i st23.hp (by omega) fun w26 H26 h26 g26 m26 f26 => ?_
    have st26 := st23.heap h26 g26 m26 f26
    have G3 := (G2.push hnx hone2 (v := x.id.toNat) (d := x.key) (e := ⟨p, x.id, G.wt x.id, -1⟩) hself hxk (by rw [exi]; exact hpn) hy)
    rw [exi] at G3
    rw [wi_ i (by omega)]
    refine hY _ _ _ (by omega) ⟨i + 1, H26, _, _, hi', rfl, rfl, st26, push_one hone2 _ _, push_srt hsrt2 _ _, G3.mono tko, (v22.mod k23 fun _ _ => id).mod m26 fun b hb hk => sp2 _ hk b hb rfl, fun k hk b hb e => ?_⟩
    rcases f26 k hk with h1 | h1
    ·exact sp2 k h1 b hb e
    ·have := v22.lt hb; have := k23.size; omega
   ·have hpos' : 0 ≤ y := by have : ¬ y < 0 := hpos; omega
    rw [wi_ i (by omega)]
    exact hY _ _ _ (by omega) ⟨i + 1, H2, q2, kn2, hi', rfl, rfl, st2, hone2, hsrt2, (G2.skip (v := x.id) (e := ⟨p, x.id, G.wt x.id, -1⟩) hy hpos').mono tko, v22, sp2⟩
  ·have ei : i = (G.prevL x.id).length := by omega
   subst ei
   rw [List.take_length] at G2
   refine hX (G.m - met ds') _ _ (by omega) ⟨H2, q2, kn2, ds', bs', rfl, rfl, st2, hone2, hsrt2, G2.mono fun v e he _ => ?_⟩
   by_cases hv : v = x.id
   ·rw [hv] at he
    exact .inr (G.mem_prev.2 (G.mem_nx.1 he).2.1)
   ·exact .inl hv
end Go.Proofs.YtjjgcimlmjnaeaaGreat

namespace Go.Proofs.YtjjgcimlmjnaeaaGreat
open Go Go.Den
theorem rwithin_i {n low high : Int} {w : World} {Q : Bool → World → Prop} (hQ : Q (decide (low ≤ n ∧ n ≤ high)) w) : F_ref4_within n low high w Q := by
 unfold F_ref4_within
 refine cond_d (fun h => ?_) (fun h => ?_)
 ·have e : decide (n ≤ high) = decide (low ≤ n ∧ n ≤ high) := by
   by_cases h2 : n ≤ high
   ·rw [decide_eq_true h2, decide_eq_true ⟨by omega, h2⟩]
   ·rw [decide_eq_false h2, decide_eq_false (fun h' => h2 h'.2)]
  rw [e]; exact hQ
 ·rw [decide_eq_false (fun h' => h (by omega))] at hQ; exact hQ
section
variable {g : GT} {G : Gr} {w : World} (h : GvIs w g G) (ok : OkG G)
include h ok
theorem REdge_i {e : Int} {Q : Bool → World → Prop} (hQ : ∀ w', Keep w w' → Q (decide (G.isE e)) w') : F_ref4_Edge g e w Q := by
 unfold F_ref4_Edge
 have hm := ok.m1
 have hl : g.2.1.l = G.m := h.ed.len
 refine alloc_i fun w1 o1 k1 z1 => ld1_i (k := .slice) g.2.1 (own3 o1).2.1 (rwithin_i ?_)
 rw [w64 (n := ((g.2.1.l : Nat) : Int) - 1) (by omega) (by omega), hl]
 have : decide (0 ≤ e ∧ e ≤ (G.m : Int) - 1) = decide (G.isE e) := by
  have : (0 ≤ e ∧ e ≤ (G.m : Int) - 1) ↔ G.isE e := ⟨fun h => ⟨h.1, by omega⟩, fun h => ⟨h.1, by have := h.2; omega⟩⟩
  simp only [this]
 rw [this]; exact hQ w1 k1
theorem RNode_i {e : Int} {Q : Bool → World → Prop} (hQ : ∀ w', Keep w w' → Q (decide (G.isN e)) w') : F_ref4_Node g e w Q := by
 unfold F_ref4_Node
 have hm := ok.n1
 have hl : g.1.l = G.n := h.nd.len
 refine alloc_i fun w1 o1 k1 z1 => ld1_i (k := .slice) g.1 (own3 o1).1 (rwithin_i ?_)
 rw [w64 (n := ((g.1.l : Nat) : Int) - 1) (by omega) (by omega), hl]
 have : decide (0 ≤ e ∧ e ≤ (G.n : Int) - 1) = decide (G.isN e) := by
  have : (0 ≤ e ∧ e ≤ (G.n : Int) - 1) ↔ G.isN e := ⟨fun h => ⟨h.1, by omega⟩, fun h => ⟨h.1, by have := h.2; omega⟩⟩
  simp only [this]
 rw [this]; exact hQ w1 k1
omit ok in
theorem RBanned_i {a b : Int} {Q : Bool → World → Prop} (hbl : G.B.length ≤ 1024) (hQ : ∀ w', Keep w w' → Q (decide ((a, b) ∈ G.B)) w') : F_ref4_Banned g a b w Q := by
 unfold F_ref4_Banned
 have hl : g.2.2.1.l = G.B.length := h.bn.len
 refine alloc_i fun w1 o1 k1 z1 => ?_
 refine loop_i (fun c t w2 => ∃ i : Nat, i ≤ G.B.length ∧ c = G.B.length - i ∧ t = ((i : Int), ()) ∧ Keep w1 w2 ∧ (a, b) ∉ G.B.take i) G.B.length ⟨0, Nat.zero_le _, rfl, rfl, Mod.refl _ _, by simp⟩ ?_
 rintro c t w2 ⟨i, hi, rfl, rfl, k2, hno⟩ X hX
 dsimp only
 have c2 := (own3 (o1.mod k2 id)).2.2
 refine ld1_i (k := .slice) g.2.2.1 c2 (cond_d (fun hlt => ?_) (fun hge => ?_))
 ·have hi' : i < G.B.length := by omega
  have hget := List.getElem?_eq_getElem hi'
  have hmem := List.getElem_mem hi'
  have htk := List.take_succ_eq_append_getElem hi'
  generalize G.B[i] = x at *
  obtain ⟨p, hp, _, q1, q2⟩ := rd2 (h.bn.mod (k1.tr k2) eP_ne fun _ _ => id) hget
  rw [Int.toNat_natCast]
  have next : x ≠ (a, b) → X (IntKind.wrap .i64 ((i : Int) + 1), ()) w2 := fun hne => by
   rw [wi_ i (by omega)]
   refine hX _ _ _ (by omega) ⟨i + 1, hi', rfl, rfl, k2, fun hm => ?_⟩
   rw [htk] at hm
   rcases List.mem_append.1 hm with h1 | h1
   ·exact hno h1
   ·have : (a, b) = x := by simpa using h1
    exact hne this.symm
  have bnd : 0 ≤ (i : Int) ∧ (i : Int) < ((g.2.2.1.l : Nat) : Int) := ⟨by omega, hlt⟩
  refine ld1_i (k := .slice) g.2.2.1 c2 ⟨bnd, onSome_i hp (ld1_i (k := .int .i64) x.1 q1 (cond_i (fun h1 => ?_) (fun h1 => next fun e => ?_)))⟩
  ·refine ld1_i (k := .slice) g.2.2.1 c2 ⟨bnd, onSome_i hp (ld1_i (k := .int .i64) x.2 q2 (cond_i (fun h2 => ?_) (fun h2 => next fun e => ?_)))⟩
   ·have e : x = (a, b) := Prod.ext (by simpa using h1) (by simpa using h2)
    have := hQ w2 (k1.tr k2)
    rw [decide_eq_true (by rw [← e]; exact hmem)] at this; exact this
   ·rw [e] at h2; simp at h2
  ·rw [e] at h1; simp at h1
 ·have ei : i = G.B.length := by omega
  subst ei
  rw [List.take_length] at hno
  have := hQ w2 (k1.tr k2)
  rw [decide_eq_false hno] at this; exact this
theorem RTurn_i {a b : Int} {Q : Bool → World → Prop} (hQ : ∀ w', Keep w w' → Q (G.turn a b) w') : F_ref4_Turn g a b w Q := by
 unfold F_ref4_Turn
 have hm := ok.m1
 have hl : g.2.1.l = G.m := h.ed.len
 refine alloc_i fun w1 o1 k1 z1 => ?_
 have d1 : Keep w1 w1.drew := Mod.drew (Mod.refl _ w1)
 have o1' : ∀ {wx : World}, Keep w1 wx → Own wx w.heap.size tAGraph (gcs g) := fun kx => o1.mod kx id
 refine ldN_i (l := [.slice, .slice, .slice]) g (own_g (o1' d1)) ?_
 refine REdge_i (h.keep (k1.tr d1)) ok fun w2 k2 => ?_
 have k12 := d1.tr k2
 refine cond_d (fun ha => ?_) (fun ha => ?_)
 ·refine ldN_i (l := [.slice, .slice, .slice]) g (own_g (o1' k12)) ?_
  refine REdge_i (h.keep (k1.tr k12)) ok fun w3 k3 => ?_
  have k13 := k12.tr k3
  have h3 := h.keep (k1.tr k13)
  refine cond_d (fun hb => ?_) (fun hb => ?_)
  ·have c3 := (own3 (o1' k13)).2.1
   obtain ⟨p1, hp1, _, _, t1, _⟩ := h3.edge ha
   obtain ⟨p2, hp2, _, f2, _, _⟩ := h3.edge hb
   refine ld1_i (k := .slice) g.2.1 c3 ⟨⟨ha.1, by rw [hl]; exact ha.2⟩, onSome_i hp1 (ld1_i (k := .int .i64) (G.to a) t1 ?_)⟩
   refine ld1_i (k := .slice) g.2.1 c3 ⟨⟨hb.1, by rw [hl]; exact hb.2⟩, onSome_i hp2 (ld1_i (k := .int .i64) (G.fr b) f2 ?_)⟩
   refine cond_i (fun he => ?_) (fun he => ?_)
   ·refine ldN_i (l := [.slice, .slice, .slice]) g (own_g (o1' k13)) ?_
    refine RBanned_i h3 ok.bl fun w4 k4 => ?_
    have := hQ w4 (k1.tr (k13.tr k4))
    unfold Gr.turn at this
    have he' : G.to a = G.fr b := by simpa using he
    rw [decide_eq_true ha, decide_eq_true hb, decide_eq_true he'] at this
    exact this
   ·have := hQ w3 (k1.tr k13)
    have he' : ¬ G.to a = G.fr b := by simpa using he
    unfold Gr.turn at this
    rw [decide_eq_true ha, decide_eq_true hb, decide_eq_false he'] at this
    exact this
  ·have := hQ w3 (k1.tr k13)
   unfold Gr.turn at this
   rw [decide_eq_true ha, decide_eq_false hb] at this
   exact this
 ·have := hQ w2 (k1.tr k12)
  unfold Gr.turn at this
  rw [decide_eq_false ha] at this
  exact this
theorem RNext_i {e : Int} {Q : Sl → World → Prop} (hQ : ∀ s w', Vec w' tInt 1 eI s (G.nextL e) → Keep w w' → (∀ b, s.b = some b → w.heap.size ≤ b.block) → Q s w') : F_ref4_Next g e w Q := by
 unfold F_ref4_Next
 have hm := ok.m1
 have hl : g.2.1.l = G.m := h.ed.len
 refine alloc_i fun w1 o1 k1 z1 => ?_
 refine loop_i (fun c t w2 => ∃ (i : Nat) (o : Sl), i ≤ G.m ∧ c = G.m - i ∧ t = (o, (i : Int), ()) ∧ Keep w1 w2 ∧ Vec w2 tInt 1 eI o ((ints i).filter fun b => G.turn e b) ∧ (∀ b, o.b = some b → w1.heap.size ≤ b.block)) G.m
  ⟨0, ⟨none, 0, 0⟩, Nat.zero_le _, rfl, rfl, Mod.refl _ _, Vec.nil _ _ _ _, fun b hb => by cases hb⟩ ?_
 rintro c t w2 ⟨i, o, hi, rfl, rfl, k2, v2, f2⟩ X hX
 dsimp only
 have o2 := o1.mod k2 id
 refine ld1_i (k := .slice) g.2.1 (own3 o2).2.1 (cond_d (fun hlt => ?_) (fun hge => ?_))
 ·have hi' : i < G.m := by omega
  refine ldN_i (l := [.slice, .slice, .slice]) g (own_g (g := g) o2) ?_
  refine RTurn_i (h.keep (k1.tr k2)) ok fun w3 k3 => ?_
  have v3 := v2.mod k3 fun _ _ => id
  have hsucc : (ints (i + 1)).filter (fun b => G.turn e b) = (ints i).filter (fun b => G.turn e b) ++ if G.turn e (i : Int) = true then [(i : Int)] else [] := by
   rw [ints_succ, List.filter_append]
   congr 1
   by_cases ht : G.turn e (i : Int) = true <;> simp [ht]
  have hfl : ((ints i).filter fun b => G.turn e b).length ≤ 51 := by
   have := List.length_filter_le (fun b => G.turn e b) (ints i)
   rw [ints_len] at this; omega
  rw [wi_ i (by omega)]
  refine cond_i (fun ht => ?_) (fun ht => ?_)
  ·rw [if_pos ht] at hsucc
   refine alloc_i fun w4 o4 k4 z4 => ?_
   have vx : Vec w4 tInt 1 eI ⟨some ⟨w3.heap.size, 0, none⟩, 1, 1⟩ [(i : Int)] := Vec.new lenI [(i : Int)] o4 (by simp [maxLen])
   have z12 := k2.size
   have z23 := k3.size
   have z34 := k4.size
   refine append_i elem_sInt lenI oneI (v3.mod k4 fun _ _ => id) (vx.rd lenI) (by simp only [List.length_cons, List.length_nil]; omega) (by simp only [List.length_cons, List.length_nil]; omega) fun r w5 v5 m5 f5 _ => ?_
   refine hX _ _ _ (by omega) ⟨i + 1, r, hi', rfl, rfl, ((k2.tr k3).tr k4).fresh m5 fun k ⟨b, hb, e⟩ => by rw [e]; exact f2 b hb, by rw [hsucc]; exact v5, fun b hb => ?_⟩
   rcases f5 with h1 | ⟨a, ha, hlt'⟩
   ·exact f2 b (by rw [← h1]; exact hb)
   ·rw [hb] at ha; cases ha; omega
  ·rw [if_neg (by rw [ht]; simp), List.append_nil] at hsucc
   exact hX _ _ _ (by omega) ⟨i + 1, o, hi', rfl, rfl, k2.tr k3, by rw [hsucc]; exact v3, f2⟩
 ·have ei : i = G.m := by omega
  subst ei
  exact hQ o w2 v2 (k1.tr k2) fun b hb => by have := f2 b hb; omega
theorem RArcs_i {Q : Sl → World → Prop} (hQ : ∀ s w', Vec w' tArc 4 eArc s G.arcs → Keep w w' → (∀ b, s.b = some b → w.heap.size ≤ b.block) → Q s w') : F_ref4_Arcs g w Q := by
 unfold F_ref4_Arcs
 have hm := ok.m1
 have hl : g.2.1.l = G.m := h.ed.len
 generalize hgg : (fun a : Int => (G.nextL a).map fun b => (⟨a, b, G.wt b, -1⟩ : Arc)) = gg at *
 have hG : G.arcs = (ints G.m).flatMap gg := by rw [← hgg]; rfl
 have pre : ∀ a : Nat, a ≤ G.m → ((ints a).flatMap gg).length ≤ 2601 := fun a ha => by
  have := flat_len gg 51 (ints a) fun x _ => by rw [← hgg]; simp only [List.length_map]; have := G.next_len x; omega
  rw [ints_len] at this
  have h2 : a * 51 ≤ 51 * 51 := Nat.mul_le_mul_right _ (by omega)
  omega
 refine alloc_i fun w1 o1 k1 z1 => ?_
 refine loop_i (fun c s w2 => ∃ (a : Nat) (o : Sl), a ≤ G.m ∧ c = G.m - a ∧ s = (o, (a : Int), ()) ∧ Keep w1 w2 ∧ Vec w2 tArc 4 eArc o ((ints a).flatMap gg) ∧ (∀ b, o.b = some b → w1.heap.size ≤ b.block)) G.m
  ⟨0, ⟨none, 0, 0⟩, Nat.zero_le _, rfl, rfl, Mod.refl _ _, Vec.nil _ _ _ _, fun b hb => by cases hb⟩ ?_
 rintro c s w2 ⟨a, o, ha, rfl, rfl, k2, v2, f2⟩ X hX
 dsimp only
 have o2 := o1.mod k2 id
 refine ld1_i (k := .slice) g.2.1 (own3 o2).2.1 (cond_d (fun hlt => ?_) (fun hge => ?_))
 ·have ha' : a < G.m := by omega
  refine ldN_i (l := [.slice, .slice, .slice]) g (own_g (g := g) o2) ?_
  refine RNext_i (h.keep (k1.tr k2)) ok fun s2 w3 v3 k3 f3 => ?_
  have hnx := G.next_len (a : Int)
  have hnE : ∀ b ∈ G.nextL (a : Int), G.isE b := fun b hb => (G.turn_iff.1 (G.mem_next.1 hb)).2.1
  have hga : gg (a : Int) = (G.nextL (a : Int)).map fun b => (⟨(a : Int), b, G.wt b, -1⟩ : Arc) := by rw [← hgg]
  generalize G.nextL (a : Int) = l at *
  have hxl := v3.len
  have hp1 := pre a (by omega)
  have ne2 : ∀ b, s2.b = some b → ∀ b', o.b = some b' → b.block ≠ b'.block := fun b hb b' hb' e => by have := f3 b hb; have := v2.lt hb'; omega
  have z12 := k2.size
  have f3' : ∀ b, s2.b = some b → b.block < w3.heap.size := fun b hb => v3.lt hb
  refine loop_i (fun c s w4 => ∃ (j : Nat) (o : Sl), j ≤ l.length ∧ c = l.length - j ∧ s = (o, (j : Int), ()) ∧ Keep w1 w4 ∧ Vec w4 tArc 4 eArc o ((ints a).flatMap gg ++ (l.take j).map fun b => (⟨(a : Int), b, G.wt b, -1⟩ : Arc)) ∧ (∀ b, o.b = some b → w1.heap.size ≤ b.block) ∧ Vec w4 tInt 1 eI s2 l ∧
    (∀ b, s2.b = some b → ∀ b', o.b = some b' → b.block ≠ b'.block) ∧ w3.heap.size ≤ w4.heap.size) l.length
   ⟨0, o, Nat.zero_le _, rfl, rfl, k2.tr k3, by simpa using v2.mod k3 fun _ _ => id, f2, v3, ne2, Nat.le_refl _⟩ ?_
  clear v2 f2 ne2 v3
  rintro c s w4 ⟨j, o, hj, rfl, rfl, k4, v4, f4, vs4, ne4, z4⟩ Y hY
  dsimp only
  refine cond_d (fun hlt2 => ?_) (fun hge2 => ?_)
  ·have hj' : j < l.length := by omega
   have hget := List.getElem?_eq_getElem hj'
   have hEj := hnE _ (List.getElem_mem hj')
   have htk := List.take_succ_eq_append_getElem hj'
   generalize l[j] = b at *
   have d4 : Keep w4 w4.drew := Mod.drew (Mod.refl _ w4)
   have kd := k4.tr d4
   obtain ⟨q, hq, hcq⟩ := rd_cell (k := .int .i64) (e := fun x => x) ((vs4.mod d4 fun _ _ => id).rd lenI) hget
   obtain ⟨p, hp, _, _, _, cw⟩ := (h.keep (k1.tr kd)).edge hEj
   rw [Int.toNat_natCast]
   have bnd : 0 ≤ (j : Int) ∧ (j : Int) < ((s2.l : Nat) : Int) := ⟨by omega, hlt2⟩
   refine ⟨bnd, onSome_i hq (ld1_i (k := .int .i64) b hcq (ld1_i (k := .slice) g.2.1 (own3 (o1.mod kd id)).2.1 ⟨bnd, onSome_i hq (ld1_i (k := .int .i64) b hcq ⟨⟨hEj.1, by rw [hl]; exact hEj.2⟩, onSome_i hp (ld1_i (k := .int .i64) (G.wt b) cw ?_)⟩)⟩))⟩
   refine alloc_i fun w6 o6 k6 z6 => ?_
   have v6 := (v4.mod d4 fun _ _ => id).mod k6 fun _ _ => id
   have vx : Vec w6 tArc 4 eArc ⟨some ⟨w4.drew.heap.size, 0, none⟩, 1, 1⟩ [(⟨(a : Int), b, G.wt b, -1⟩ : Arc)] := Vec.new lenA [_] o6 (by simp [maxLen])
   have z46 := (d4.tr k6).size
   have z14 := k4.size
   have hlen : ((ints a).flatMap gg ++ (l.take j).map fun b => (⟨(a : Int), b, G.wt b, -1⟩ : Arc)).length ≤ 3000 := by rw [List.length_append, List.length_map, List.length_take]; omega
   refine append_i elem_sArc lenA oneA v6 (vx.rd lenA) (by show _ + 1 ≤ _; omega) (by show (_ + 1) * 32 ≤ _; omega) fun r w7 v7 m7 f7 _ => ?_
   have K7 : Keep w1 w7 := (kd.tr k6).fresh m7 fun k ⟨b', hb', e⟩ => by rw [e]; exact f4 b' hb'
   have z7 := m7.size
   rw [wi_ j (by omega)]
   refine hY _ _ _ (by omega) ⟨j + 1, r, hj', rfl, rfl, K7, by rw [htk, List.map_append, ← List.append_assoc]; exact v7, fun b' hb' => ?_, ((vs4.mod d4 fun _ _ => id).mod k6 fun _ _ => id).mod m7 fun b' hb' ⟨b'', hb'', e⟩ => ne4 b' hb' b'' hb'' e, fun b' hb' b'' hb'' => ?_, by omega⟩
   ·rcases f7 with h1 | ⟨a', ha', hlt'⟩
    ·exact f4 b' (by rw [← h1]; exact hb')
    ·rw [hb'] at ha'; cases ha'; omega
   ·rcases f7 with h1 | ⟨a', ha', hlt'⟩
    ·exact ne4 b' hb' b'' (by rw [← h1]; exact hb'')
    ·rw [hb''] at ha'; cases ha'; have := f3' b' hb'; omega
  ·have ej : j = l.length := by omega
   subst ej
   rw [List.take_length, ← hga] at v4
   rw [wi_ a (by omega)]
   exact hX _ _ _ (by omega) ⟨a + 1, o, ha', rfl, rfl, k4, by rw [ints_succ, List.flatMap_append]; simpa using v4, f4⟩
 ·have ea : a = G.m := by omega
  subst ea
  exact hQ o w2 (by rw [hG]; exact v2) (k1.tr k2) fun b hb => by have := f2 b hb; omega
theorem RWeight_i {es : Sl} {l : List Int} {Q : Int → Bool → World → Prop} (hr : Rd w es 1 eI l) (hlen : l.length ≤ 100000) (hE : ∀ x ∈ l, G.isE x) (hQ : ∀ w', Keep w w' → Q (G.wsum l) true w') : F_ref4_Weight g es w Q := by
 unfold F_ref4_Weight
 have hm := ok.m1
 have hl : g.2.1.l = G.m := h.ed.len
 have hll := hr.len
 have bnd : ∀ i, i ≤ l.length → 0 ≤ G.wsum (l.take i) ∧ G.wsum (l.take i) ≤ 40 * i := fun i => by
  induction i with
  | zero => intro _; simp [Gr.wsum]
  | succ i ih =>
   intro hi
   have := ih (by omega)
   rw [List.take_succ_eq_append_getElem (show i < l.length by omega)]
   have hw := ok.w1 (hE _ (List.getElem_mem (show i < l.length by omega)))
   unfold Gr.wsum at this ⊢
   rw [List.map_append, List.sum_append]
   simp only [List.map_cons, List.map_nil, List.sum_cons, List.sum_nil]
   omega
 refine alloc_i fun w1 o1 k1 z1 => ?_
 refine loop_i (fun c s w2 => ∃ i : Nat, i ≤ l.length ∧ c = l.length - i ∧ s = (G.wsum (l.take i), (i : Int), ()) ∧ Keep w1 w2) l.length ⟨0, Nat.zero_le _, rfl, rfl, Mod.refl _ _⟩ ?_
 rintro c s w2 ⟨i, hi, rfl, rfl, k2⟩ X hX
 dsimp only
 refine cond_d (fun hlt => ?_) (fun hge => ?_)
 ·have hi' : i < l.length := by omega
  have hget := List.getElem?_eq_getElem hi'
  have hEi := hE _ (List.getElem_mem hi')
  have htk := List.take_succ_eq_append_getElem hi'
  have hb := bnd i (by omega)
  have hw := ok.w1 hEi
  generalize l[i] = x at *
  have d2 : Keep w2 w2.drew := Mod.drew (Mod.refl _ w2)
  have kd := k2.tr d2
  obtain ⟨p, hp, hc⟩ := rd_cell (k := .int .i64) (e := fun x => x) (hr.mod (k1.tr kd) eI_ne fun _ _ => id) hget
  rw [Int.toNat_natCast]
  have B : 0 ≤ (i : Int) ∧ (i : Int) < ((es.l : Nat) : Int) := ⟨by omega, hlt⟩
  refine ldN_i (l := [.slice, .slice, .slice]) g (own_g (g := g) (o1.mod kd id)) ⟨B, onSome_i hp (ld1_i (k := .int .i64) x hc ?_)⟩
  refine REdge_i (h.keep (k1.tr kd)) ok fun w3 k3 => ?_
  rw [decide_eq_true hEi]
  refine cond_i (fun h => by simp at h) (fun _ => ?_)
  have d3 : Keep w3 w3.drew := Mod.drew (Mod.refl _ w3)
  have k13 := (kd.tr k3).tr d3
  obtain ⟨p', hp', hc'⟩ := rd_cell (k := .int .i64) (e := fun x => x) (hr.mod (k1.tr k13) eI_ne fun _ _ => id) hget
  obtain ⟨q, hq, _, _, _, cw⟩ := (h.keep (k1.tr k13)).edge hEi
  refine ld1_i (k := .slice) g.2.1 (own3 (o1.mod k13 id)).2.1 ⟨B, onSome_i hp' (ld1_i (k := .int .i64) x hc' ⟨⟨hEi.1, by rw [hl]; exact hEi.2⟩, onSome_i hq (ld1_i (k := .int .i64) (G.wt x) cw ?_)⟩)⟩
  rw [wi_ i (by omega), w64 (n := G.wsum (l.take i) + G.wt x) (by omega) (by omega)]
  refine hX _ _ _ (by omega) ⟨i + 1, hi', rfl, ?_, k13⟩
  rw [htk]; unfold Gr.wsum; simp
 ·have : i = l.length := by omega
  subst this
  rw [List.take_length]
  exact hQ w2 (k1.tr k2)
end
theorem closed_i {w : World} {s : Sl} {c : List Bool} {e : Int} {Q : Bool → World → Prop} (hr : Rd w s 1 eB c) (h0 : 0 ≤ e) (hQ : Q (shutB c e) w) : F_ref4_closed s e w Q := by
 unfold F_ref4_closed
 have hl := hr.len
 refine cond_d (fun _ => cond_d (fun hlt => ?_) (fun hge => by rw [shutB_ge (by omega)] at hQ; exact hQ)) (fun h => absurd h0 h)
 obtain ⟨p, hp, hc⟩ := rd_cell (k := .bool) (e := fun x => x) hr (shutB_get h0 (by omega))
 exact ⟨⟨h0, hlt⟩, onSome_i hp (ld1_i (k := .bool) (shutB c e) hc hQ)⟩
end Go.Proofs.YtjjgcimlmjnaeaaGreat

namespace Go.Proofs.YtjjgcimlmjnaeaaGreat
open Go Go.Den
theorem find_at {p : Int → Bool} {x : Int} : ∀ {l : List Int} {i : Nat}, (∀ y ∈ l.take i, p y = false) → l[i]? = some x → p x = true → l.find? p = some x
 | [], i, _, h, _ => by simp at h
 | y :: l, 0, _, h, hp => by simp at h; subst h; rw [List.find?_cons, hp]
 | y :: l, i + 1, hn, h, hp => by
  rw [List.find?_cons, hn y (by simp)]
  exact find_at (i := i) (fun z hz => hn z (by rw [List.take_succ_cons]; exact List.mem_cons_of_mem _ hz)) (by simpa using h) hp
theorem minInt_self (x : Int) : minInt x x = x := by unfold minInt; split <;> rfl
section
variable {t : TurS} {G : Gr} {far closed : Sl} {ds : List Int} {c : List Bool}
theorem step_i {e : Int} {W : World} {Q : Int → World → Prop} (h : TurIs W t G) (hE : G.isE e) (hf : Rd W far 1 eI ds) (hl : ds.length = G.m) (hc : Rd W closed 1 eB c) (hb : ∀ (v : Nat) x, ds[v]? = some x → -1 ≤ x ∧ x ≤ 102 * BW)
  (hQ : ∀ w', Keep W w' → Q (match G.stepP c ds e with | some n => n | none => -1) w') : F_least_step (some ⟨t.t, 0, none⟩) e far closed W Q := by
 unfold F_least_step
 have ok := h.gra.ok
 have hm := ok.m1
 have hfl := hf.len
 have hcl := hc.len
 refine Next_i h fun s1 w1 v1 k1 f1 => ?_
 have l1 := v1.len
 have hnl := G.next_len e
 have hnE : ∀ b ∈ G.nextL e, G.isE b := fun b hb => (G.turn_iff.1 (G.mem_next.1 hb)).2.1
 have gv : ∀ {x : Int}, G.isE x → ds[x.toNat]? = some (dsv ds x) := fun {x} hx => by
  have : x.toNat < ds.length := by have := hx.2; omega
  unfold dsv
  rw [List.getD_eq_getElem?_getD, List.getElem?_eq_getElem this]; rfl
 refine loop_i (fun c' s w2 => ∃ i : Nat, i ≤ (G.nextL e).length ∧ c' = (G.nextL e).length - i ∧ s = ((i : Int), ()) ∧ Keep w1 w2 ∧ ∀ x ∈ (G.nextL e).take i, G.okStep c ds e x = false) (G.nextL e).length ⟨0, Nat.zero_le _, rfl, rfl, Mod.refl _ _, by simp⟩ ?_
 rintro c' s w2 ⟨i, hi, rfl, rfl, k2, hno⟩ X hX
 dsimp only
 refine cond_d (fun hlt => ?_) (fun hge => ?_)
 ·have hi' : i < (G.nextL e).length := by omega
  have hget := List.getElem?_eq_getElem hi'
  have hnEi := hnE _ (List.getElem_mem hi')
  have htk := List.take_succ_eq_append_getElem hi'
  generalize (G.nextL e)[i] = n at *
  obtain ⟨p, hp, hcp⟩ := rd_cell (k := .int .i64) (e := fun x => x) ((v1.mod k2 fun _ _ => id).rd lenI) hget
  rw [Int.toNat_natCast]
  have h2 := h.keep (k1.tr k2)
  refine ⟨⟨by omega, hlt⟩, onSome_i hp (ld1_i (k := .int .i64) n hcp (onSome_i rfl (ld1_i (k := .ptr) (some ⟨t.H.g, 0, none⟩) h2.cells.1 ?_)))⟩
  refine weightAt_i h2 hnEi fun a3 w5 hc5 k5 _ => ?_
  have k15 := k2.tr k5
  have KW5 := k1.tr k15
  have next : ∀ wz, Keep w1 wz → G.okStep c ds e n = false → X (IntKind.wrap .i64 ((i : Int) + 1), ()) wz := fun wz kz hn => by
   rw [wi_ i (by omega)]
   refine hX _ _ _ (by omega) ⟨i + 1, hi', rfl, rfl, kz, fun x hx => ?_⟩
   rw [htk] at hx
   rcases List.mem_append.1 hx with hx | hx
   ·exact hno x hx
   ·have : x = n := by simpa using hx
    rw [this]; exact hn
  intro J hJ
  have core : ∀ b, b = shutB c n → J (b, ()) w5 := by
   rintro b rfl
   apply hJ
   dsimp only
   have d5 : Keep w5 w5.drew := Mod.drew (Mod.refl _ w5)
   have kd := k15.tr d5
   have hfd := hf.mod (KW5.tr d5) eI_ne fun _ _ => id
   have hcd := d5.cell hc5 id
   obtain ⟨pn, hpn, hcn⟩ := rd_cell (k := .int .i64) (e := fun x => x) hfd (gv hnEi)
   obtain ⟨pe, hpe, hce⟩ := rd_cell (k := .int .i64) (e := fun x => x) hfd (gv hE)
   have bn := hb _ _ (gv hnEi)
   have be := hb _ _ (gv hE)
   have hw := ok.w1 hnEi
   have In : 0 ≤ n ∧ n < ((far.l : Nat) : Int) := ⟨hnEi.1, by have := hnEi.2; omega⟩
   have Ie : 0 ≤ e ∧ e < ((far.l : Nat) : Int) := ⟨hE.1, by have := hE.2; omega⟩
   refine cond_i (fun hs => ?_) (fun hs => ?_)
   ·have hs' : shutB c n = false := by simpa using hs
    have okE : G.okStep c ds e n = (decide (0 ≤ dsv ds n) && decide (dsv ds n + G.wt n = dsv ds e)) := by unfold Gr.okStep; rw [hs']; rfl
    refine cond_d (fun _ => ⟨In, onSome_i hpn (ld1_i (k := .int .i64) (dsv ds n) hcn ?_)⟩) (fun h => absurd In.2 h)
    refine cond_d (fun h0 => ⟨In, onSome_i hpn (ld1_i (k := .int .i64) (dsv ds n) hcn ⟨Ie, onSome_i hpe (ld1_i (k := .int .i64) (dsv ds e) hce ?_)⟩)⟩) (fun h0 => next _ kd ?_)
    ·refine cond_d (fun hlt2 => ⟨In, onSome_i hpn (ld1_i (k := .int .i64) (dsv ds n) hcn ⟨Ie, onSome_i hpe (ld1_i (k := .int .i64) (dsv ds e) hce (ld1_i (k := .int .i64) (G.wt n) hcd ?_))⟩)⟩) (fun hge2 => next _ kd ?_)
     ·rw [w64 (n := dsv ds e - G.wt n) (by simp only [BW] at *; omega) (by simp only [BW] at *; omega)]
      refine cond_i (fun heq => ?_) (fun hne => next _ kd ?_)
      ·have heq' : dsv ds n = dsv ds e - G.wt n := by simpa using heq
       have hok : G.okStep c ds e n = true := by rw [okE]; simp only [Bool.and_eq_true, decide_eq_true_eq]; exact ⟨h0, by omega⟩
       have := hQ w5.drew (KW5.tr d5)
       rw [show G.stepP c ds e = some n from find_at hno hget hok] at this
       exact this
      ·have hne' : ¬ dsv ds n = dsv ds e - G.wt n := by simpa using hne
       rw [okE]; simp only [Bool.and_eq_false_iff, decide_eq_false_iff_not]; exact .inr (by omega)
     ·have hge2' : ¬ dsv ds n < dsv ds e := hge2
      rw [okE]; simp only [Bool.and_eq_false_iff, decide_eq_false_iff_not]; exact .inr (by omega)
    ·have h0' : ¬ dsv ds n ≥ 0 := h0
     rw [okE]; simp only [Bool.and_eq_false_iff, decide_eq_false_iff_not]; exact .inl (by omega)
   ·have hs' : shutB c n = true := by simpa using hs
    exact next _ kd (by unfold Gr.okStep; rw [hs']; rfl)
  have hc5' := hc.mod KW5 eB_ne fun _ _ => id
  refine cond_d (fun hlt3 => ?_) (fun hge3 => core false (shutB_ge (by omega)).symm)
  obtain ⟨pc, hpc, hcc⟩ := rd_cell (k := .bool) (e := fun x => x) hc5' (shutB_get hnEi.1 (by omega))
  exact ⟨⟨hnEi.1, hlt3⟩, onSome_i hpc (ld1_i (k := .bool) (shutB c n) hcc (core _ rfl))⟩
 ·have ei : i = (G.nextL e).length := by omega
  subst ei
  rw [List.take_length] at hno
  have := hQ w2 (k1.tr k2)
  rw [show G.stepP c ds e = none from List.find?_eq_none.2 fun x hx => by rw [hno x hx]; simp] at this
  exact this
theorem Along_i {v e : Int} {W : World} {Q : Sl → Bool → World → Prop} (h : TurIs W t G) (hd : G.far c v ds) (hf : Rd W far 1 eI ds) (hc : Rd W closed 1 eB c) (hb : ∀ (v : Nat) x, ds[v]? = some x → -1 ≤ x ∧ x ≤ 102 * BW)
  (hno : ¬ (G.isE e ∧ 0 ≤ dsv ds e) → Q ⟨none, 0, 0⟩ false W) (hyes : ∀ l s w', G.isE e → 0 ≤ dsv ds e → G.LWay c ds e l → Vec w' tInt 1 eI s l → Keep W w' → (∀ b, s.b = some b → W.heap.size ≤ b.block) → Q s true w') :
  F_least_Along (some ⟨t.t, 0, none⟩) e far closed W Q := by
 unfold F_least_Along
 have ok := h.gra.ok
 have hm := ok.m1
 have hl := hd.1
 have hfl := hf.len
 rw [hl] at hfl
 refine cond_i (fun h => by simp at h) (fun _ => cond_d (fun h => hno fun h' => by omega) (fun h0 => ?_))
 refine onSome_i rfl (ld1_i (k := .ptr) (some ⟨t.H.g, 0, none⟩) h.cells.1 (Edges_i h.gra ?_))
 rw [hfl, minInt_self]
 refine cond_d (fun h => hno fun h' => by omega) (fun h1 => ?_)
 have hE : G.isE e := ⟨by omega, by omega⟩
 obtain ⟨p, hp, hcp⟩ := rd_cell (k := .int .i64) (e := fun x => x) hf (far_get hd hE)
 refine ⟨⟨hE.1, hE.2⟩, onSome_i hp (ld1_i (k := .int .i64) (dsv ds e) hcp (cond_d (fun hneg => hno fun h' => ?_) (fun hpos => ?_)))⟩
 ·have : dsv ds e < 0 := hneg
  omega
 have hpos' : 0 ≤ dsv ds e := by have : ¬ dsv ds e < 0 := hpos; omega
 obtain ⟨tot, htot⟩ := ok.lway_ex hd (dsv ds e).toNat hE hpos' (by omega)
 have htl := htot.len ok
 refine loop_i (fun c' s w2 => ∃ (cur : Int) (l0 l : List Int) (o : Sl), c' = l.length ∧ s = (cur, o, ()) ∧ G.isE cur ∧ G.LWay c ds cur l ∧ l0 ++ l = tot ∧ Keep W w2 ∧ Vec w2 tInt 1 eI o l0 ∧ (∀ b, o.b = some b → W.heap.size ≤ b.block)) tot.length
  ⟨e, [], tot, ⟨none, 0, 0⟩, rfl, rfl, hE, htot, rfl, Mod.refl _ _, Vec.nil _ _ _ _, fun b hb => by cases hb⟩ ?_
 rintro c' s w2 ⟨cur, l0, l, o, rfl, rfl, hcE, hlw, hcat, k2, v2, f2⟩ X hX
 dsimp only
 obtain ⟨p2, hp2, hcp2⟩ := rd_cell (k := .int .i64) (e := fun x => x) (hf.mod k2 eI_ne fun _ _ => id) (far_get hd hcE)
 refine ⟨⟨hcE.1, hcE.2⟩, onSome_i hp2 (ld1_i (k := .int .i64) (dsv ds cur) hcp2 ?_)⟩
 cases hlw with
 | nil hz =>
  refine cond_d (fun h => absurd (show dsv ds cur > 0 from h) (by omega)) (fun _ => ?_)
  rw [List.append_nil] at hcat
  subst hcat
  exact hyes _ o w2 hE hpos' htot v2 k2 f2
 | @cons _ n l hz hst hlw =>
  refine cond_d (fun _ => ?_) (fun h => absurd (show dsv ds cur > 0 from hz) h)
  refine step_i (h.keep k2) hcE (hf.mod k2 eI_ne fun _ _ => id) hl (hc.mod k2 eB_ne fun _ _ => id) hb fun w3 k3 => ?_
  rw [hst]
  dsimp only
  have hnE := (G.turn_iff.1 (G.step_spec hst).1).2.1
  refine cond_d (fun h => absurd hnE.1 (by have : n < 0 := h; omega)) (fun _ => ?_)
  refine alloc_i fun w4 o4 k4 z4 => ?_
  have k34 := k3.tr k4
  have v4 := v2.mod k34 fun _ _ => id
  have vx : Vec w4 tInt 1 eI ⟨some ⟨w3.heap.size, 0, none⟩, 1, 1⟩ [n] := Vec.new lenI [n] o4 (by simp [maxLen])
  have hl0 : l0.length ≤ tot.length := by rw [← hcat]; simp
  have hz3 := k34.size
  have hz2 := k2.size
  refine append_i elem_sInt lenI oneI v4 (vx.rd lenI) (by simp; omega) (by simp; omega) fun r w5 v5 m5 f5 _ => ?_
  refine hX l.length _ _ (by simp) ⟨n, l0 ++ [n], l, r, rfl, rfl, hnE, hlw, by rw [← hcat]; simp, (k2.tr k34).fresh m5 fun k ⟨b, hb, e⟩ => by rw [e]; exact f2 b hb, v5, fun b hb => ?_⟩
  rcases f5 with h1 | ⟨a, ha, hlt⟩
  ·exact f2 b (by rw [← h1]; exact hb)
  ·rw [hb] at ha; cases ha; omega
end
end Go.Proofs.YtjjgcimlmjnaeaaGreat
