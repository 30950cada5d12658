/-
  Whether two rows of whole numbers are the same.
-/
import Derived.Test.YtljiijljeipdhaaGreatQ3
import Derived.Test.YtljiijljeipdhaaGreatQ1
import Derived.Test.YtljiijljeipdhaaGreatA4
import Derived.Test.YtljiijljeipdhaaGreatA5
import Derived.Test.YtljiijljeipdhaaGreatQ4
import Derived.Test.YtljiijljeipdhaaGreatFL20
import Derived.Test.YtljiijljeipdhaaGreatQ6
namespace Go.Proofs.YtljiijljeipdhaaGreat
open Go Go.Den

theorem Ints_i {a b : Sl} {xs ys : List Int} {w : World} {Q : Bool → World → Prop} (ha : Rd w a 1 eI xs) (hb : Rd w b 1 eI ys) (hl : xs.length < 1000000) (hQ : ∀ (r : Bool) w', Keep w w' → (r = true ↔ xs = ys) → Q r w') : F_alike_Ints a b w Q := by
  unfold F_alike_Ints
  have la := ha.len
  have lb := hb.len
  refine cond_i (fun h => ?_) (fun h => ?_)
  · refine hQ false w (Mod.refl _ _) ⟨fun h => (by cases h), fun e => ?_⟩
    rw [la, lb, e] at h; simp at h
  · have hab : xs.length = ys.length := by simp at h; omega
    refine loop_i (fun c t w1 => ∃ (i : Nat), i ≤ xs.length ∧ c = xs.length - i ∧ t = ((i : Int), ()) ∧ Keep w w1 ∧ ∀ j, j < i → xs[j]? = ys[j]?) xs.length ⟨0, Nat.zero_le _, rfl, rfl, Mod.refl _ _, fun j hj => by omega⟩ ?_
    rintro c t w1 ⟨i, hi, rfl, rfl, k1, he⟩ X hX
    dsimp only
    refine cond_d (fun hlt => ?_) (fun hge => ?_)
    · have hx := List.getElem?_eq_getElem (show i < xs.length by omega)
      have hy := List.getElem?_eq_getElem (show i < ys.length by omega)
      have d1 : Keep w1 w1.drew := Mod.drew (Mod.refl _ w1)
      have K1 := k1.tr d1
      obtain ⟨p, hp, hc⟩ := rd_cell (k := .int .i64) (e := fun x => x) (ha.mod K1 eI_ne fun _ _ => id) hx
      obtain ⟨p', hp', hc'⟩ := rd_cell (k := .int .i64) (e := fun x => x) (hb.mod K1 eI_ne fun _ _ => id) hy
      rw [Int.toNat_natCast]
      refine ⟨⟨by omega, hlt⟩, onSome_i hp (ld1_i (k := .int .i64) xs[i] hc ⟨⟨by omega, by omega⟩, onSome_i hp' (ld1_i (k := .int .i64) ys[i] hc' ?_)⟩)⟩
      refine cond_i (fun hne => ?_) (fun heq => ?_)
      · refine hQ false _ K1 ⟨fun h => (by cases h), fun e => ?_⟩
        subst e
        exact absurd hne (by show ¬ ((xs[i] != xs[i]) = true); simp)
      · have heq' : xs[i] = ys[i] := by
          have : (xs[i] != ys[i]) = false := heq
          simpa using this
        rw [w64 (by omega) (by omega)]
        refine hX (xs.length - (i + 1)) _ _ (by omega) ⟨i + 1, by omega, rfl, rfl, K1, fun j hj => ?_⟩
        rcases Nat.lt_or_ge j i with h | h
        · exact he j h
        · have : j = i := by omega
          subst this
          rw [hx, hy, heq']
    · refine hQ true w1 k1 ⟨fun _ => ?_, fun _ => rfl⟩
      apply List.ext_getElem?
      intro j
      by_cases hj : j < xs.length
      · exact he j (by omega)
      · rw [List.getElem?_eq_none (by omega), List.getElem?_eq_none (by omega)]
end Go.Proofs.YtljiijljeipdhaaGreat

/-
  The words that each of the seat's proofs opens with.
-/
namespace Go.Proofs.YtljiijljeipdhaaGreat
open Go Go.Den Go.ChangeShapes Go.WideShapes Go.ChangeAt Go.RowKit

theorem own : ownKnob Tryz.prog.godebug = none := by kernel_rfl
theorem laid : laidOutB Tryz.prog = true := by kernel_rfl
theorem call_of {g : FuncId} {T : Tr} (hS : Sound Tryz.prog g T) {args : List Value} {W : World} (h : T args W fun v w' => v = .bool true ∧ Since W w') : Calls Tryz.prog g args.toArray W fun e w' => e = .returned (.bool true) ∧ Since W w' :=
  (hS args W _ h).mono fun e w' ⟨v, he, hv, hs⟩ => ⟨by rw [he, hv], hs⟩
end Go.Proofs.YtljiijljeipdhaaGreat

/-
  Arguments: rows of three, of five, and whole numbers.
-/
namespace Go.Proofs.YtljiijljeipdhaaGreat
open Go Go.Den Go.ChangeShapes Go.WideShapes Go.ChangeAt Go.RowKit

def i1Of : List Int → Int
  | [x] => x
  | _ => 0
theorem i1Of_enc {r : List Int} (h : r.length = 1) : eI (i1Of r) = r.map (Value.int .i64) := by
  match r, h with
  | [x], _ => rfl
set_option maxRecDepth 100000 in
theorem arg_is {H : Type} {enc : TypeId × Value → H} {W : World} {t b : Nat} {v : Value} {d : DataW H} {ps : List MemPlace} (ht : Tryz.prog.underlying t = some (.slice tInt)) (hval : Value.okWide Tryz.prog W .any b t v) (h : DataW.Trod enc Tryz.prog W 0 (fun _ => true) true t v d ps) :
    ∃ (s : Sl) (xs : List Int), v = .slice s.b s.l s.c ∧ Rd W s 1 eI xs := by
  obtain ⟨s, rows, rfl, hr, hl⟩ := arg_rows (m := 1) ht (by kernel_rfl) (by kernel_rfl) hval h
  exact ⟨s, rows.map i1Of, rfl, hr.map i1Of fun r hr => i1Of_enc (hl r hr)⟩
end Go.Proofs.YtljiijljeipdhaaGreat

/-
  Arguments: pairs, and rows of whole numbers.
-/
namespace Go.Proofs.YtljiijljeipdhaaGreat
open Go Go.Den Go.ChangeShapes Go.WideShapes Go.ChangeAt Go.RowKit
end Go.Proofs.YtljiijljeipdhaaGreat

/-
  Chapter 20's laws: what they compute is true.
-/
namespace Go.Proofs.YtljiijljeipdhaaGreat
open Go Go.Den

theorem Levels_i {E : EngS} {G : Gr} {w : World} {Q : Option Addr → World → Prop} (h : EngIs w E G) (hQ : Q (some ⟨E.L.gl, 0, none⟩) w) : F_engine_Engine_Levels (some ⟨E.e, 0, none⟩) w Q := by
  unfold F_engine_Engine_Levels
  exact cond_i (fun h => by simp at h) (fun _ => onSome_i rfl (ld1_i (k := .ptr) (some ⟨E.L.gl, 0, none⟩) h.cells.2.1 hQ))
theorem Way_none {a b : Int} {s : Sl} {w : World} {Q : AT → World → Prop} (hQ : ∀ w', Keep w w' → Q (⟨none, 0, 0⟩, 0, false, false, ()) w') : F_engine_Engine_Way none a b s w Q := by
  unfold F_engine_Engine_Way
  refine alloc_i fun w1 o1 k1 z1 => alloc_i fun w2 o2 k2 z2 => ?_
  refine cond_i (fun _ => ?_) (fun h => by simp at h)
  have o2' : Own w2 w1.heap.size tAns (eAns (⟨none, 0, 0⟩, 0, false, false, ())) := o2
  exact ansEnd size_Ans o2' fun w3 _ m3 => hQ w3 ((k1.tr k2).fresh m3 fun k e => by rw [show k = w1.heap.size from e]; exact k1.size)
theorem ENew_bad {w : World} {Q : Option Addr → Int → World → Prop} (hQ : ∀ w', Keep w w' → Q none 1 w') : F_engine_New (⟨none, 0, 0⟩, ⟨none, 0, 0⟩, ⟨none, 0, 0⟩, ()) w Q := by
  unfold F_engine_New
  refine alloc_i fun w1 o1 k1 z1 => ?_
  refine ldN_i (l := [.slice, .slice, .slice]) ((⟨none, 0, 0⟩, ⟨none, 0, 0⟩, ⟨none, 0, 0⟩, ()) : GT) (own_all o1) ?_
  unfold F_graph_New
  refine alloc_i fun w2 o2 k2 z2 => ?_
  refine ldN_i (l := [.slice, .slice, .slice]) ((⟨none, 0, 0⟩, ⟨none, 0, 0⟩, ⟨none, 0, 0⟩, ()) : GT) (own_all o2) ?_
  unfold F_graph_may
  refine alloc_i fun w3 o3 k3 z3 => ?_
  refine ld1_i (k := .slice) ⟨none, 0, 0⟩ (own3 o3).1 ?_
  unfold F_graph_within
  refine cond_d (fun h => absurd h (by decide)) (fun _ => cond_i (fun _ => cond_i (fun _ => ?_) (fun h => by simp at h)) (fun h => by simp at h))
  exact cond_i (fun _ => hQ w3 ((k1.tr k2).tr k3)) (fun h => by simp at h)
/-- A town, and its engine. -/
theorem made20_i {l : Sl} {xs : List Int} {W : World} {K : Addr → Option Addr → Int → World → Prop} (hl : Rd W l 1 eI xs)
    (hK : ∀ g G E a w', EngIs w' E G → GvIs w' g G → OkG G → G.n ≤ 16 → Own w' a tAGraph (gcs g) → Keep W w' → W.heap.size ≤ a → K ⟨a, 0, none⟩ (some ⟨E.e, 0, none⟩) 0 w') :
    F_ref24_Town l W fun (t1 : GT) w4 => allocD w4 #[Value.slice none 0 0, Value.slice none 0 0, Value.slice none 0 0] tAGraph fun a1 w5 => storeD Tryz.prog tAGraph a1 (Value.agg #[(Value.slice t1.1.b t1.1.l t1.1.c), (Value.slice t1.2.1.b t1.2.1.l t1.2.1.c), (Value.slice t1.2.2.1.b t1.2.2.1.l t1.2.2.1.c)]) w5 fun w6 =>
      ldN [.slice, .slice, .slice] w6 a1 fun (t2 : GT) => F_engine_New (t2.1, t2.2.1, t2.2.2.1, ()) w6 fun (p1 : Option Addr) (x1 : Int) w7 => K a1 p1 x1 w7 := by
  refine Town_i hl fun g G w4 hg ok hn k4 => ?_
  refine agg_new (vs := gcs g) size_AGraph rfl (gone1 g) fun w6 o6 k6 z6 => ?_
  refine ldN_i (l := [.slice, .slice, .slice]) g (own_g (g := g) o6) ?_
  refine ENew_i (g := g) (hg.keep k6) ok fun E w7 hE k7 => ?_
  exact hK g G E _ w7 hE ((hg.keep k6).keep k7) ok hn (o6.mod k7 id) ((k4.tr k6).tr k7) k4.size

theorem awake20_i {w : World} {Q : Bool → World → Prop} (hQ : ∀ w', Keep w w' → Q true w') : F_law20_awake w Q := by
  unfold F_law20_awake
  refine alloc_i fun w1 o1 k1 z1 => ?_
  refine made20_i ((Vec.new lenI [(3 : Int), 3, 5] o1 (by simp [maxLen])).rd lenI) fun g G E a w5 hE hg ok hn oa k5 _ => ?_
  refine ENew_bad fun w6 k6 => ?_
  have h6 := hE.keep k6
  have hm := ok.m1
  have hE0 : G.isE 0 := ⟨by omega, by omega⟩
  have gl : g.2.1.l = G.m := hg.ed.len
  refine cond_i (fun h => by simp at h) (fun _ => cond_i (fun h => by simp at h) (fun _ => ?_))
  obtain ⟨p, hp, _, _, ct, _⟩ := (hg.keep k6).edge hE0
  refine ld1_i (k := .slice) g.2.1 (own3 (oa.mod k6 id)).2.1 ⟨⟨by omega, by omega⟩, onSome_i hp (ld1_i (k := .int .i64) (G.to 0) ct ?_)⟩
  refine Way_i h6 (c := []) (Rd.nil _ _ _) fun s wt f r l w7 hA v7 _ _ k7 f7 => ?_
  have hsrc : G.gw [] (G.to 0) 0 0 := .nil ⟨hE0, rfl⟩
  have hto := (ok.ed _ (G.ed_mem hE0)).2.1
  obtain ⟨rfl, rfl, rfl, rfl⟩ : l = [] ∧ wt = 0 ∧ f = true ∧ r = false := by
    cases hA with
    | no hno => exact absurd hsrc (hno 0 hto)
    | near _ _ h0 hl _ =>
      have := ok.dsv_le h0 hsrc
      cases hl with
      | nil _ => exact ⟨rfl, rfl, rfl, rfl⟩
      | cons hp _ _ => omega
    | far _ _ _ _ _ hs _ => obtain ⟨x, _, hx⟩ := hs; rw [shut_nil] at hx; cases hx
  refine agg_new (vs := eAns (s, 0, true, false, ())) size_Ans rfl (oneAns _) fun w9 o9 k9 z9 => ?_
  have h9 := (h6.keep k7).keep k9
  refine Way_i h9 (c := []) (Rd.nil _ _ _) fun s2 wt2 f2 r2 l2 w10 hA2 v10 _ _ k10 _ => ?_
  obtain ⟨rfl, rfl, rfl, rfl⟩ : l2 = [] ∧ wt2 = 0 ∧ f2 = false ∧ r2 = false := by
    have nn : ¬ G.isN 99 := fun h => by have := h.2; omega
    cases hA2 with
    | no hno => exact ⟨rfl, rfl, rfl, rfl⟩
    | near hv => exact absurd hv nn
    | far hv => exact absurd hv nn
  refine agg_new (vs := eAns (s2, 0, false, false, ())) size_Ans rfl (oneAns _) fun w12 o12 k12 z12 => ?_
  refine cond_i (fun _ => ?_) (fun h => by simp at h)
  have d : Keep w12 w12.drew := Mod.drew (Mod.refl _ w12)
  have c9 := own4 (((o9.mod k10 id).mod k12 id).mod d id)
  have c12 := own4 (o12.mod d id)
  have sl := v7.len
  refine ld1_i (k := .bool) true c9.2.2.1 (cond_i (fun _ => ?_) (fun h => by simp at h))
  refine ld1_i (k := .int .i64) (0 : Int) c9.2.1 (cond_i (fun _ => ?_) (fun h => by simp at h))
  refine ld1_i (k := .slice) s c9.1 (cond_i (fun _ => ?_) (fun h => by rw [sl] at h; simp at h))
  refine ld1_i (k := .bool) false c9.2.2.2 (cond_i (fun _ => ?_) (fun h => by simp at h))
  refine ld1_i (k := .bool) false c12.2.2.1 (cond_i (fun _ => ?_) (fun h => by simp at h))
  refine Way_none fun w13 k13 => cond_i (fun _ => ?_) (fun h => by simp at h)
  have kk : Keep w6 w13 := (((k7.tr k9).tr (k10.tr k12)).tr d).tr k13
  have h13 := h6.keep kk
  refine Levels_i h13 (cond_i (fun _ => ?_) (fun h => by simp at h))
  have og := oa.mod (k6.tr kk) id
  refine onSome_i rfl (ld1_i (k := .ptr) (some ⟨E.t.t, 0, none⟩) h13.cells.1 (onSome_i rfl (ld1_i (k := .ptr) (some ⟨E.t.H.g, 0, none⟩) h13.tur.cells.1 (ld1_i (k := .slice) g.2.1 (own3 og).2.1 (Edges_i h13.tur.gra ⟨(own3 og).2.1, ?_⟩)))))
  rw [gl]
  have := hQ w13 ((k1.tr k5).tr (k6.tr kk))
  simpa using this

end Go.Proofs.YtljiijljeipdhaaGreat

/-
  Chapter 20's laws: what they compute is true.
-/
namespace Go.Proofs.YtljiijljeipdhaaGreat
open Go Go.Den

theorem net_least {G : Gr} (ok : OkG G) {v a : Int} (ha : G.isE a) {x : Int} (h : LeastIs (G.gw [] v a) x) : LeastIs (fun d => ∃ t, inSrc G.m (G.inN v) t ∧ Walk G.net (-1) a t d) x := by
  have insrc : ∀ t, inSrc G.m (G.inN v) t ↔ G.src v t := fun t => by
    unfold inSrc; rw [G.mem_inN]; exact ⟨fun h => h.1, fun h => ⟨h, h.1.1, h.1.2⟩⟩
  refine least_equiv h (fun d hg => ?_) (fun d ⟨t, ht, hw⟩ => ?_)
  · obtain ⟨d', t, hle, ht, hwk⟩ := ok.gw_walk hg
    exact ⟨d', hle, t, (insrc t).2 ht, hwk⟩
  · have := OkG.walk_gw hw 0 (.nil ((insrc t).1 ht))
    rw [Int.zero_add] at this
    exact ⟨d, Int.le_refl _, this⟩

theorem EngineLevels_i {at_ node : Int} {l shut : Sl} {xs cs : List Int} {W : World} {Q : Bool → World → Prop} (hl : Rd W l 1 eI xs) (hs : Rd W shut 1 eI cs) (hQ : ∀ w', Keep W w' → Q true w') : F_law20_EngineLevels l at_ node shut W Q := by
  unfold F_law20_EngineLevels
  have hll := hl.len
  have hsl := hs.len
  refine cond_d (fun _ => awake20_i hQ) (fun h1 => cond_d (fun _ => awake20_i hQ) (fun h2 => ?_))
  refine made20_i hl fun g G E a w6 hE hg ok hn oa k6 _ => ?_
  have hm := ok.m1
  have hnn := ok.n1
  have gl : g.2.1.l = G.m := hg.ed.len
  have gn : g.1.l = G.n := hg.nd.len
  refine cond_i (fun h => by simp at h) (fun _ => cond_i (fun h => by simp at h) (fun _ => ?_))
  have d6 : Keep w6 w6.drew := Mod.drew (Mod.refl _ w6)
  have og : ∀ {wx : World}, Keep w6 wx → Own wx a tAGraph (gcs g) := fun kx => oa.mod kx id
  have hd := hE.keep d6
  refine Levels_i hd (cond_i (fun h => by simp at h) (fun _ => ?_))
  refine ld1_i (k := .slice) g.2.1 (own3 (og d6)).2.1 (Levels_i hd ⟨(own3 (og d6)).2.1, onSome_i rfl (ld1_i (k := .ptr) (some ⟨E.L.N.g, 0, none⟩) hd.lev.c0 (Len_i hd.lev.net ⟨(own3 (og d6)).2.1, ?_⟩))⟩)
  refine cond_i (fun h => by rw [gl] at h; simp at h) (fun _ => ?_)
  have dd : Keep w6 w6.drew.drew := d6.tr (Mod.drew (Mod.refl _ w6.drew))
  refine ld1_i (k := .slice) g.2.1 (own3 (og dd)).2.1 (ld1_i (k := .slice) g.1 (own3 (og dd)).1 (Round_i (by omega) (by omega) ⟨(own3 (og dd)).1, Round_i (by omega) (by omega) ?_⟩))
  rw [gl, gn]
  have ha : G.isE (at_ % (G.m : Int)) := ⟨Int.emod_nonneg _ (by omega), Int.emod_lt_of_pos _ (by omega)⟩
  have hv : G.isN (node % (G.n : Int)) := ⟨Int.emod_nonneg _ (by omega), Int.emod_lt_of_pos _ (by omega)⟩
  generalize at_ % (G.m : Int) = e at *
  generalize node % (G.n : Int) = v at *
  -- the edges that come there
  refine loop_i (fun c t w12 => ∃ (i : Nat) (o : Sl), i ≤ G.m ∧ c = G.m - i ∧ t = (o, (i : Int), ()) ∧ Keep w6 w12 ∧ Vec w12 tInt 1 eI o ((ints i).filter fun e => decide (G.to e = v)) ∧ (∀ b, o.b = some b → w6.heap.size ≤ b.block)) G.m
    ⟨0, ⟨none, 0, 0⟩, Nat.zero_le _, rfl, rfl, dd, Vec.nil _ _ _ _, fun b hb => by cases hb⟩ ?_
  rintro c t w12 ⟨i, o, hi, rfl, rfl, k12, v12, f12⟩ X hX
  dsimp only
  refine ld1_i (k := .slice) g.2.1 (own3 (og k12)).2.1 (cond_d (fun hlt => ?_) (fun hge => ?_))
  · have hi' : i < G.m := by omega
    have hEi : G.isE (i : Int) := ⟨by omega, by omega⟩
    obtain ⟨p, hp, _, _, ct, _⟩ := (hg.keep k12).edge hEi
    have hsucc : (ints (i + 1)).filter (fun e => decide (G.to e = v)) = (ints i).filter (fun e => decide (G.to e = v)) ++ if G.to (i : Int) = v then [(i : Int)] else [] := by
      rw [ints_succ, List.filter_append]
      congr 1
      by_cases ht : G.to (i : Int) = v <;> simp [ht]
    have hfl : ((ints i).filter fun e => decide (G.to e = v)).length ≤ 51 := by
      have := List.length_filter_le (fun e => decide (G.to e = v)) (ints i)
      rw [ints_len] at this; omega
    refine ld1_i (k := .slice) g.2.1 (own3 (og k12)).2.1 ⟨⟨by omega, hlt⟩, onSome_i hp (ld1_i (k := .int .i64) (G.to (i : Int)) ct ?_)⟩
    rw [wi_ i (by omega)]
    refine cond_i (fun ht => ?_) (fun ht => ?_)
    · have ht' : G.to (i : Int) = v := by simpa using ht
      rw [if_pos ht'] at hsucc
      refine alloc_i fun w13 o13 k13 z13 => ?_
      have vx : Vec w13 tInt 1 eI ⟨some ⟨w12.heap.size, 0, none⟩, 1, 1⟩ [(i : Int)] := Vec.new lenI [(i : Int)] o13 (by simp [maxLen])
      have z6 := k12.size
      refine append_i elem_sInt lenI oneI (v12.mod k13 fun _ _ => id) (vx.rd lenI) (by simp only [List.length_cons, List.length_nil]; omega) (by simp only [List.length_cons, List.length_nil]; omega) fun r w14 v14 m14 f14 _ => ?_
      refine hX _ _ _ (by omega) ⟨i + 1, r, hi', rfl, rfl, (k12.tr k13).fresh m14 fun k ⟨b, hb, e⟩ => by rw [e]; exact f12 b hb, by rw [hsucc]; exact v14, fun b hb => ?_⟩
      rcases f14 with h1 | ⟨a, ha, hlt'⟩
      · exact f12 b (by rw [← h1]; exact hb)
      · rw [hb] at ha; cases ha; omega
    · have ht' : ¬ G.to (i : Int) = v := by simpa using ht
      rw [if_neg ht', List.append_nil] at hsucc
      exact hX _ _ _ (by omega) ⟨i + 1, o, hi', rfl, rfl, k12, by rw [hsucc]; exact v12, f12⟩
  have ei : i = G.m := by omega
  subst ei
  have hw40 : ∀ e ∈ G.net, e.w ≤ 40 := fun e he => (ok.net_may e he).2.1
  have h12 := hE.keep k12
  have v12' : Vec w12 tInt 1 eI o (G.inN v) := v12
  refine Levels_i h12 (Dist_i h12.lev hm.2 (v12'.rd lenI) (by have := G.inN_len v; omega) fun dd16 w16 hdd k16 => ?_)
  have K16 := k12.tr k16
  refine Way_i (hE.keep K16) (c := []) (Rd.nil _ _ _) fun s1 wt1 f1 r1 l1 w17 hA1 v17 _ l51 k17 _ => ?_
  refine agg_new (vs := eAns (s1, wt1, f1, r1, ())) size_Ans rfl (oneAns _) fun w19 o19 k19 z19 => ?_
  have K19 := (K16.tr k17).tr k19
  refine ldN_i (l := [.slice, .slice, .slice]) g (own_g (g := g) (og K19)) ?_
  refine Shut_i (hg.keep K19) ok (hs.mod (k6.tr K19) eI_ne fun _ _ => id) (by omega) fun s7 c w20 hcl v20 k20 _ => ?_
  have K20 := K19.tr k20
  refine Way_i (hE.keep K20) (v20.rd lenB) fun s2 wt2 f2 r2 l2 w21 hA2 v21 _ l52 k21 _ => ?_
  refine agg_new (vs := eAns (s2, wt2, f2, r2, ())) size_Ans rfl (oneAns _) fun w23 o23 k23 z23 => ?_
  have K23 := (K20.tr k21).tr k23
  have c5 := own4 (((o19.mod k20 id).mod k21 id).mod k23 id)
  have c6 := own4 o23
  have v1' := (((v17.mod k19 fun _ _ => id).mod k20 fun _ _ => id).mod k21 fun _ _ => id).mod k23 fun _ _ => id
  have v2' := v21.mod k23 fun _ _ => id
  have aw : ∀ wz, Keep w23 wz → F_law20_awake wz Q := fun wz kz => awake20_i fun w' k' => hQ w' ((k6.tr (K23.tr kz)).tr k')
  have least := fun {x : Int} => udd_least ok.net_ok hw40 hm.2 (a := e) ha.1 ha.2 (ts := G.inN v) (x := x)
  cases hA1 with
  | no hno =>
    have hd1 : dd16 = -1 := hdd.one (least (net_least ok ha (LeastIs.no fun k hk => hno k hv hk)))
    subst hd1
    obtain ⟨rfl, rfl, rfl, rfl⟩ : l2 = [] ∧ wt2 = 0 ∧ f2 = false ∧ r2 = false := ok.ans_uniq hA2 (.no fun d hN hgw => hno d hN (G.gw_open hgw))
    refine ld1_i (k := .bool) false c5.2.2.1 (cond_i (fun _ => ?_) (fun h => by simp at h))
    refine ld1_i (k := .int .i64) (0 : Int) c5.2.1 (cond_i (fun _ => ?_) (fun h => absurd h (by decide)))
    refine ld1_i (k := .bool) false c5.2.2.2 (cond_i (fun _ => ?_) (fun h => by simp at h))
    refine ld1_i (k := .bool) false c6.2.2.1 (cond_i (fun _ => ?_) (fun h => by simp at h))
    exact ld1_i (k := .bool) false c6.2.2.1 (cond_i (fun _ => aw _ (Mod.refl _ _)) (fun h => by simp at h))
  | far _ _ _ _ _ hsx => obtain ⟨x, _, hx⟩ := hsx; rw [shut_nil] at hx; cases hx
  | @near d0 _ _ _ h0 hl0 _ =>
    have hf0 := hl0.facts ok
    have hd0 : 0 ≤ dsv d0 e := (ok.dsv_le h0 (ok.lway_gw h0 ha hl0 fun x _ => shut_nil x)).1
    have hd1 : dd16 = dsv d0 e := hdd.one (least (net_least ok ha (far_least h0 ha)))
    subst hd1
    have hmx : max (dsv d0 e) 0 = dsv d0 e := by omega
    rw [hmx]
    refine ld1_i (k := .bool) true c5.2.2.1 (cond_i (fun _ => ?_) (fun h => by rw [decide_eq_true hd0] at h; simp at h))
    refine ld1_i (k := .int .i64) (G.wsum l1) c5.2.1 (cond_i (fun _ => ?_) (fun h => by rw [hf0.1] at h; simp at h))
    refine ld1_i (k := .bool) false c5.2.2.2 (cond_i (fun _ => ?_) (fun h => by simp at h))
    -- what the other one says
    have hw2 : f2 = true → dsv d0 e ≤ wt2 ∧ (r2 = false → l1 = l2) := fun hf => by
      cases hA2 with
      | no _ => cases hf
      | near _ _ h0' hl' _ =>
        rw [h0.one h0'] at hl0 ⊢
        have := hl0.uniq hl'
        subst this
        exact ⟨by rw [(hl'.facts ok).1]; exact Int.le_refl _, fun _ => rfl⟩
      | far _ _ _ h1 _ _ hl' =>
        refine ⟨?_, fun h => by cases h⟩
        rw [(hl'.facts ok).1]
        have hg1 := ok.lway_gw h1 ha hl' fun x hx => ((hl'.facts ok).2.2.1 x hx).2
        rw [(hl'.facts ok).1] at hg1
        exact (ok.dsv_le h0 (G.gw_open hg1)).2
    have tail : ∀ (K : Prop), K = (ld1 .bool w23 ((⟨w21.heap.size, 0, none⟩ : Addr).add 3) fun (b9 : Bool) => cond b9 (F_law20_awake w23 fun (b10 : Bool) w25 => Q b10 w25) (ld1 .slice w23 ((⟨w17.heap.size, 0, none⟩ : Addr).add 0) fun (s8 : Sl) => ld1 .slice w23 ((⟨w21.heap.size, 0, none⟩ : Addr).add 0) fun (s9 : Sl) =>
        F_alike_Ints s8 s9 w23 fun (b11 : Bool) w26 => cond b11 (F_law20_awake w26 fun (b12 : Bool) w27 => Q b12 w27) (Q false w26))) → f2 = true → K := by
      rintro K rfl hf
      refine ld1_i (k := .bool) r2 c6.2.2.2 (cond_i (fun _ => aw _ (Mod.refl _ _)) (fun hr => ?_))
      refine ld1_i (k := .slice) s1 c5.1 (ld1_i (k := .slice) s2 c6.1 ?_)
      refine Ints_i (v1'.rd lenI) (v2'.rd lenI) (by omega) fun b w26 k26 hb => ?_
      exact cond_i (fun _ => aw _ k26) (fun h => by rw [hb.2 ((hw2 hf).2 hr)] at h; cases h)
    cases f2 with
    | false =>
      refine ld1_i (k := .bool) false c6.2.2.1 (cond_i (fun _ => ?_) (fun h => by simp at h))
      exact ld1_i (k := .bool) false c6.2.2.1 (cond_i (fun _ => aw _ (Mod.refl _ _)) (fun h => by simp at h))
    | true =>
      refine ld1_i (k := .bool) true c6.2.2.1 (cond_i (fun h => by simp at h) (fun _ => ?_))
      refine ld1_i (k := .bool) true c5.2.2.1 (cond_i (fun _ => ?_) (fun h => by simp at h))
      refine ld1_i (k := .int .i64) wt2 c6.2.1 (cond_d (fun _ => ?_) (fun h => absurd (hw2 rfl).1 h))
      exact ld1_i (k := .bool) true c6.2.2.1 (cond_i (fun h => by simp at h) (fun _ => tail _ rfl rfl))

end Go.Proofs.YtljiijljeipdhaaGreat
