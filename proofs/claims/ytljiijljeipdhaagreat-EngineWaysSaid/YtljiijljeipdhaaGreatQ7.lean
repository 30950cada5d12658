/-
  Whether two rows of whole numbers are the same.
-/
import Derived.Test.YtljiijljeipdhaaGreatQ3
import Derived.Test.YtljiijljeipdhaaGreatQ1
import Derived.Test.YtljiijljeipdhaaGreatA4
import Derived.Test.YtljiijljeipdhaaGreatA5
import Derived.Test.YtljiijljeipdhaaGreatQ4
import Derived.Test.YtljiijljeipdhaaGreatFL20
import Derived.Test.YtljiijljeipdhaaGreatQ6
namespace Go.Proofs.YtljiijljeipdhaaGreat
open Go Go.Den

theorem Ints_i {a b : Sl} {xs ys : List Int} {w : World} {Q : Bool → World → Prop} (ha : Rd w a 1 eI xs) (hb : Rd w b 1 eI ys) (hl : xs.length < 1000000) (hQ : ∀ (r : Bool) w', Keep w w' → (r = true ↔ xs = ys) → Q r w') : F_alike_Ints a b w Q := by
  unfold F_alike_Ints
  have la := ha.len
  have lb := hb.len
  refine cond_i (fun h => ?_) (fun h => ?_)
  · refine hQ false w (Mod.refl _ _) ⟨fun h => (by cases h), fun e => ?_⟩
    rw [la, lb, e] at h; simp at h
  · have hab : xs.length = ys.length := by simp at h; omega
    refine loop_i (fun c t w1 => ∃ (i : Nat), i ≤ xs.length ∧ c = xs.length - i ∧ t = ((i : Int), ()) ∧ Keep w w1 ∧ ∀ j, j < i → xs[j]? = ys[j]?) xs.length ⟨0, Nat.zero_le _, rfl, rfl, Mod.refl _ _, fun j hj => by omega⟩ ?_
    rintro c t w1 ⟨i, hi, rfl, rfl, k1, he⟩ X hX
    dsimp only
    refine cond_d (fun hlt => ?_) (fun hge => ?_)
    · have hx := List.getElem?_eq_getElem (show i < xs.length by omega)
      have hy := List.getElem?_eq_getElem (show i < ys.length by omega)
      have d1 : Keep w1 w1.drew := Mod.drew (Mod.refl _ w1)
      have K1 := k1.tr d1
      obtain ⟨p, hp, hc⟩ := rd_cell (k := .int .i64) (e := fun x => x) (ha.mod K1 eI_ne fun _ _ => id) hx
      obtain ⟨p', hp', hc'⟩ := rd_cell (k := .int .i64) (e := fun x => x) (hb.mod K1 eI_ne fun _ _ => id) hy
      rw [Int.toNat_natCast]
      refine ⟨⟨by omega, hlt⟩, onSome_i hp (ld1_i (k := .int .i64) xs[i] hc ⟨⟨by omega, by omega⟩, onSome_i hp' (ld1_i (k := .int .i64) ys[i] hc' ?_)⟩)⟩
      refine cond_i (fun hne => ?_) (fun heq => ?_)
      · refine hQ false _ K1 ⟨fun h => (by cases h), fun e => ?_⟩
        subst e
        exact absurd hne (by show ¬ ((xs[i] != xs[i]) = true); simp)
      · have heq' : xs[i] = ys[i] := by
          have : (xs[i] != ys[i]) = false := heq
          simpa using this
        rw [w64 (by omega) (by omega)]
        refine hX (xs.length - (i + 1)) _ _ (by omega) ⟨i + 1, by omega, rfl, rfl, K1, fun j hj => ?_⟩
        rcases Nat.lt_or_ge j i with h | h
        · exact he j h
        · have : j = i := by omega
          subst this
          rw [hx, hy, heq']
    · refine hQ true w1 k1 ⟨fun _ => ?_, fun _ => rfl⟩
      apply List.ext_getElem?
      intro j
      by_cases hj : j < xs.length
      · exact he j (by omega)
      · rw [List.getElem?_eq_none (by omega), List.getElem?_eq_none (by omega)]
end Go.Proofs.YtljiijljeipdhaaGreat

/-
  The words that each of the seat's proofs opens with.
-/
namespace Go.Proofs.YtljiijljeipdhaaGreat
open Go Go.Den Go.ChangeShapes Go.WideShapes Go.ChangeAt Go.RowKit

theorem own : ownKnob Tryz.prog.godebug = none := by kernel_rfl
theorem laid : laidOutB Tryz.prog = true := by kernel_rfl
theorem call_of {g : FuncId} {T : Tr} (hS : Sound Tryz.prog g T) {args : List Value} {W : World} (h : T args W fun v w' => v = .bool true ∧ Since W w') : Calls Tryz.prog g args.toArray W fun e w' => e = .returned (.bool true) ∧ Since W w' :=
  (hS args W _ h).mono fun e w' ⟨v, he, hv, hs⟩ => ⟨by rw [he, hv], hs⟩
def arcOf : List Int → Arc
  | [f, t, w, m] => ⟨f, t, w, m⟩
  | _ => ⟨0, 0, 0, 0⟩
theorem arcOf_enc {r : List Int} (h : r.length = 4) : eArc (arcOf r) = r.map (Value.int .i64) := by
  match r, h with
  | [f, t, w, m], _ => rfl
set_option maxRecDepth 100000 in
theorem arg_arcs {H : Type} {enc : TypeId × Value → H} {W : World} {t b : Nat} {v : Value} {d : DataW H} {ps : List MemPlace} (ht : Tryz.prog.underlying t = some (.slice tArc)) (hval : Value.okWide Tryz.prog W .any b t v) (h : DataW.Trod enc Tryz.prog W 0 (fun _ => true) true t v d ps) :
    ∃ (s : Sl) (xs : List Arc), v = .slice s.b s.l s.c ∧ Rd W s 4 eArc xs := by
  obtain ⟨s, rows, rfl, hr, hl⟩ := arg_rows (m := 4) ht (by kernel_rfl) (by kernel_rfl) hval h
  exact ⟨s, rows.map arcOf, rfl, hr.map arcOf fun r hr => arcOf_enc (hl r hr)⟩
end Go.Proofs.YtljiijljeipdhaaGreat

/-
  Arguments: rows of three, of five, and whole numbers.
-/
namespace Go.Proofs.YtljiijljeipdhaaGreat
open Go Go.Den Go.ChangeShapes Go.WideShapes Go.ChangeAt Go.RowKit

def r3Of : List Int → R3
  | [x, y, z] => (x, y, z)
  | _ => (0, 0, 0)
theorem r3Of_enc {r : List Int} (h : r.length = 3) : eR3 (r3Of r) = r.map (Value.int .i64) := by
  match r, h with
  | [x, y, z], _ => rfl
def i1Of : List Int → Int
  | [x] => x
  | _ => 0
theorem i1Of_enc {r : List Int} (h : r.length = 1) : eI (i1Of r) = r.map (Value.int .i64) := by
  match r, h with
  | [x], _ => rfl
set_option maxRecDepth 100000 in
theorem arg_is {H : Type} {enc : TypeId × Value → H} {W : World} {t b : Nat} {v : Value} {d : DataW H} {ps : List MemPlace} (ht : Tryz.prog.underlying t = some (.slice tInt)) (hval : Value.okWide Tryz.prog W .any b t v) (h : DataW.Trod enc Tryz.prog W 0 (fun _ => true) true t v d ps) :
    ∃ (s : Sl) (xs : List Int), v = .slice s.b s.l s.c ∧ Rd W s 1 eI xs := by
  obtain ⟨s, rows, rfl, hr, hl⟩ := arg_rows (m := 1) ht (by kernel_rfl) (by kernel_rfl) hval h
  exact ⟨s, rows.map i1Of, rfl, hr.map i1Of fun r hr => i1Of_enc (hl r hr)⟩
end Go.Proofs.YtljiijljeipdhaaGreat

/-
  Arguments: pairs, and rows of whole numbers.
-/
namespace Go.Proofs.YtljiijljeipdhaaGreat
open Go Go.Den Go.ChangeShapes Go.WideShapes Go.ChangeAt Go.RowKit
def p2Of : List Int → Int × Int
  | [x, y] => (x, y)
  | _ => (0, 0)
theorem p2Of_enc {r : List Int} (h : r.length = 2) : eP (p2Of r) = r.map (Value.int .i64) := by
  match r, h with
  | [x, y], _ => rfl
set_option maxRecDepth 100000 in
theorem arg_p2 {H : Type} {enc : TypeId × Value → H} {W : World} {t b : Nat} {v : Value} {d : DataW H} {ps : List MemPlace} (ht : Tryz.prog.underlying t = some (.slice tArr2)) (hval : Value.okWide Tryz.prog W .any b t v) (h : DataW.Trod enc Tryz.prog W 0 (fun _ => true) true t v d ps) :
    ∃ (s : Sl) (xs : List (Int × Int)), v = .slice s.b s.l s.c ∧ Rd W s 2 eP xs := by
  obtain ⟨s, rows, rfl, hr, hl⟩ := arg_rows (m := 2) ht (by kernel_rfl) (by kernel_rfl) hval h
  exact ⟨s, rows.map p2Of, rfl, hr.map p2Of fun r hr => p2Of_enc (hl r hr)⟩
set_option maxRecDepth 100000 in
theorem arg_iss {H : Type} {enc : TypeId × Value → H} {W : World} {t b : Nat} {v : Value} {d : DataW H} {ps : List MemPlace} (ht : Tryz.prog.underlying t = some (.slice tsInt)) (hval : Value.okWide Tryz.prog W .any b t v) (h : DataW.Trod enc Tryz.prog W 0 (fun _ => true) true t v d ps) :
    ∃ (s : Sl) (rows : List (List Int)), v = .slice s.b s.l s.c ∧ RowsRd W s rows := by
  obtain ⟨s, ss, rows, rfl, h1, h2, h3⟩ := arg_introws (u := tInt) ht (by kernel_rfl) (by kernel_rfl) (by kernel_rfl) (by kernel_rfl) hval h
  exact ⟨s, rows, rfl, ss, h1, h2, h3⟩
end Go.Proofs.YtljiijljeipdhaaGreat

/-
  Chapter 20's laws: what they compute is true.
-/
namespace Go.Proofs.YtljiijljeipdhaaGreat
open Go Go.Den

theorem Levels_i {E : EngS} {G : Gr} {w : World} {Q : Option Addr → World → Prop} (h : EngIs w E G) (hQ : Q (some ⟨E.L.gl, 0, none⟩) w) : F_engine_Engine_Levels (some ⟨E.e, 0, none⟩) w Q := by
  unfold F_engine_Engine_Levels
  exact cond_i (fun h => by simp at h) (fun _ => onSome_i rfl (ld1_i (k := .ptr) (some ⟨E.L.gl, 0, none⟩) h.cells.2.1 hQ))
theorem Way_none {a b : Int} {s : Sl} {w : World} {Q : AT → World → Prop} (hQ : ∀ w', Keep w w' → Q (⟨none, 0, 0⟩, 0, false, false, ()) w') : F_engine_Engine_Way none a b s w Q := by
  unfold F_engine_Engine_Way
  refine alloc_i fun w1 o1 k1 z1 => alloc_i fun w2 o2 k2 z2 => ?_
  refine cond_i (fun _ => ?_) (fun h => by simp at h)
  have o2' : Own w2 w1.heap.size tAns (eAns (⟨none, 0, 0⟩, 0, false, false, ())) := o2
  exact ansEnd size_Ans o2' fun w3 _ m3 => hQ w3 ((k1.tr k2).fresh m3 fun k e => by rw [show k = w1.heap.size from e]; exact k1.size)
theorem ENew_bad {w : World} {Q : Option Addr → Int → World → Prop} (hQ : ∀ w', Keep w w' → Q none 1 w') : F_engine_New (⟨none, 0, 0⟩, ⟨none, 0, 0⟩, ⟨none, 0, 0⟩, ()) w Q := by
  unfold F_engine_New
  refine alloc_i fun w1 o1 k1 z1 => ?_
  refine ldN_i (l := [.slice, .slice, .slice]) ((⟨none, 0, 0⟩, ⟨none, 0, 0⟩, ⟨none, 0, 0⟩, ()) : GT) (own_all o1) ?_
  unfold F_graph_New
  refine alloc_i fun w2 o2 k2 z2 => ?_
  refine ldN_i (l := [.slice, .slice, .slice]) ((⟨none, 0, 0⟩, ⟨none, 0, 0⟩, ⟨none, 0, 0⟩, ()) : GT) (own_all o2) ?_
  unfold F_graph_may
  refine alloc_i fun w3 o3 k3 z3 => ?_
  refine ld1_i (k := .slice) ⟨none, 0, 0⟩ (own3 o3).1 ?_
  unfold F_graph_within
  refine cond_d (fun h => absurd h (by decide)) (fun _ => cond_i (fun _ => cond_i (fun _ => ?_) (fun h => by simp at h)) (fun h => by simp at h))
  exact cond_i (fun _ => hQ w3 ((k1.tr k2).tr k3)) (fun h => by simp at h)
theorem same_i {a b : AT} {l : List Int} {w : World} {Q : Bool → World → Prop} (ha : Rd w a.1 1 eI l) (hb : Rd w b.1 1 eI l) (hl : l.length < 1000000) (he : a.2 = b.2) (hQ : ∀ w', Keep w w' → Q true w') : F_law20_same a b w Q := by
  unfold F_law20_same
  refine alloc_i fun w1 o1 k1 z1 => alloc_i fun w2 o2 k2 z2 => ?_
  have K2 := k1.tr k2
  have oa : ∀ {wx : World}, Keep w2 wx → _ := fun {wx} kx => own4 ((o1.mod k2 id).mod kx id)
  have ob : ∀ {wx : World}, Keep w2 wx → _ := fun {wx} kx => own4 (o2.mod kx id)
  refine ld1_i (k := .slice) a.1 (oa (Mod.refl _ _)).1 (ld1_i (k := .slice) b.1 (ob (Mod.refl _ _)).1 ?_)
  refine Ints_i (ha.mod K2 eI_ne fun _ _ => id) (hb.mod K2 eI_ne fun _ _ => id) hl fun r w3 k3 hr => ?_
  refine cond_i (fun _ => ?_) (fun h => by rw [hr.2 rfl] at h; cases h)
  have e1 : a.2.1 = b.2.1 := by rw [he]
  have e2 : a.2.2.1 = b.2.2.1 := by rw [he]
  have e3 : a.2.2.2.1 = b.2.2.2.1 := by rw [he]
  refine ld1_i (k := .int .i64) a.2.1 (oa k3).2.1 (ld1_i (k := .int .i64) b.2.1 (ob k3).2.1 (cond_i (fun _ => ?_) (fun h => by rw [e1] at h; simp at h)))
  refine ld1_i (k := .bool) a.2.2.1 (oa k3).2.2.1 (ld1_i (k := .bool) b.2.2.1 (ob k3).2.2.1 (cond_i (fun _ => ?_) (fun h => by rw [e2] at h; simp at h)))
  refine ld1_i (k := .bool) a.2.2.2.1 (oa k3).2.2.2 (ld1_i (k := .bool) b.2.2.2.1 (ob k3).2.2.2 ?_)
  rw [e3]
  have := hQ w3 (K2.tr k3)
  simpa using this

/-- A town, and its engine. -/
theorem made20_i {l : Sl} {xs : List Int} {W : World} {K : Addr → Option Addr → Int → World → Prop} (hl : Rd W l 1 eI xs)
    (hK : ∀ g G E a w', EngIs w' E G → GvIs w' g G → OkG G → G.n ≤ 16 → Own w' a tAGraph (gcs g) → Keep W w' → W.heap.size ≤ a → K ⟨a, 0, none⟩ (some ⟨E.e, 0, none⟩) 0 w') :
    F_ref24_Town l W fun (t1 : GT) w4 => allocD w4 #[Value.slice none 0 0, Value.slice none 0 0, Value.slice none 0 0] tAGraph fun a1 w5 => storeD Tryz.prog tAGraph a1 (Value.agg #[(Value.slice t1.1.b t1.1.l t1.1.c), (Value.slice t1.2.1.b t1.2.1.l t1.2.1.c), (Value.slice t1.2.2.1.b t1.2.2.1.l t1.2.2.1.c)]) w5 fun w6 =>
      ldN [.slice, .slice, .slice] w6 a1 fun (t2 : GT) => F_engine_New (t2.1, t2.2.1, t2.2.2.1, ()) w6 fun (p1 : Option Addr) (x1 : Int) w7 => K a1 p1 x1 w7 := by
  refine Town_i hl fun g G w4 hg ok hn k4 => ?_
  refine agg_new (vs := gcs g) size_AGraph rfl (gone1 g) fun w6 o6 k6 z6 => ?_
  refine ldN_i (l := [.slice, .slice, .slice]) g (own_g (g := g) o6) ?_
  refine ENew_i (g := g) (hg.keep k6) ok fun E w7 hE k7 => ?_
  exact hK g G E _ w7 hE ((hg.keep k6).keep k7) ok hn (o6.mod k7 id) ((k4.tr k6).tr k7) k4.size

theorem awake20_i {w : World} {Q : Bool → World → Prop} (hQ : ∀ w', Keep w w' → Q true w') : F_law20_awake w Q := by
  unfold F_law20_awake
  refine alloc_i fun w1 o1 k1 z1 => ?_
  refine made20_i ((Vec.new lenI [(3 : Int), 3, 5] o1 (by simp [maxLen])).rd lenI) fun g G E a w5 hE hg ok hn oa k5 _ => ?_
  refine ENew_bad fun w6 k6 => ?_
  have h6 := hE.keep k6
  have hm := ok.m1
  have hE0 : G.isE 0 := ⟨by omega, by omega⟩
  have gl : g.2.1.l = G.m := hg.ed.len
  refine cond_i (fun h => by simp at h) (fun _ => cond_i (fun h => by simp at h) (fun _ => ?_))
  obtain ⟨p, hp, _, _, ct, _⟩ := (hg.keep k6).edge hE0
  refine ld1_i (k := .slice) g.2.1 (own3 (oa.mod k6 id)).2.1 ⟨⟨by omega, by omega⟩, onSome_i hp (ld1_i (k := .int .i64) (G.to 0) ct ?_)⟩
  refine Way_i h6 (c := []) (Rd.nil _ _ _) fun s wt f r l w7 hA v7 _ _ k7 f7 => ?_
  have hsrc : G.gw [] (G.to 0) 0 0 := .nil ⟨hE0, rfl⟩
  have hto := (ok.ed _ (G.ed_mem hE0)).2.1
  obtain ⟨rfl, rfl, rfl, rfl⟩ : l = [] ∧ wt = 0 ∧ f = true ∧ r = false := by
    cases hA with
    | no hno => exact absurd hsrc (hno 0 hto)
    | near _ _ h0 hl _ =>
      have := ok.dsv_le h0 hsrc
      cases hl with
      | nil _ => exact ⟨rfl, rfl, rfl, rfl⟩
      | cons hp _ _ => omega
    | far _ _ _ _ _ hs _ => obtain ⟨x, _, hx⟩ := hs; rw [shut_nil] at hx; cases hx
  refine agg_new (vs := eAns (s, 0, true, false, ())) size_Ans rfl (oneAns _) fun w9 o9 k9 z9 => ?_
  have h9 := (h6.keep k7).keep k9
  refine Way_i h9 (c := []) (Rd.nil _ _ _) fun s2 wt2 f2 r2 l2 w10 hA2 v10 _ _ k10 _ => ?_
  obtain ⟨rfl, rfl, rfl, rfl⟩ : l2 = [] ∧ wt2 = 0 ∧ f2 = false ∧ r2 = false := by
    have nn : ¬ G.isN 99 := fun h => by have := h.2; omega
    cases hA2 with
    | no hno => exact ⟨rfl, rfl, rfl, rfl⟩
    | near hv => exact absurd hv nn
    | far hv => exact absurd hv nn
  refine agg_new (vs := eAns (s2, 0, false, false, ())) size_Ans rfl (oneAns _) fun w12 o12 k12 z12 => ?_
  refine cond_i (fun _ => ?_) (fun h => by simp at h)
  have d : Keep w12 w12.drew := Mod.drew (Mod.refl _ w12)
  have c9 := own4 (((o9.mod k10 id).mod k12 id).mod d id)
  have c12 := own4 (o12.mod d id)
  have sl := v7.len
  refine ld1_i (k := .bool) true c9.2.2.1 (cond_i (fun _ => ?_) (fun h => by simp at h))
  refine ld1_i (k := .int .i64) (0 : Int) c9.2.1 (cond_i (fun _ => ?_) (fun h => by simp at h))
  refine ld1_i (k := .slice) s c9.1 (cond_i (fun _ => ?_) (fun h => by rw [sl] at h; simp at h))
  refine ld1_i (k := .bool) false c9.2.2.2 (cond_i (fun _ => ?_) (fun h => by simp at h))
  refine ld1_i (k := .bool) false c12.2.2.1 (cond_i (fun _ => ?_) (fun h => by simp at h))
  refine Way_none fun w13 k13 => cond_i (fun _ => ?_) (fun h => by simp at h)
  have kk : Keep w6 w13 := (((k7.tr k9).tr (k10.tr k12)).tr d).tr k13
  have h13 := h6.keep kk
  refine Levels_i h13 (cond_i (fun _ => ?_) (fun h => by simp at h))
  have og := oa.mod (k6.tr kk) id
  refine onSome_i rfl (ld1_i (k := .ptr) (some ⟨E.t.t, 0, none⟩) h13.cells.1 (onSome_i rfl (ld1_i (k := .ptr) (some ⟨E.t.H.g, 0, none⟩) h13.tur.cells.1 (ld1_i (k := .slice) g.2.1 (own3 og).2.1 (Edges_i h13.tur.gra ⟨(own3 og).2.1, ?_⟩)))))
  rw [gl]
  have := hQ w13 ((k1.tr k5).tr (k6.tr kk))
  simpa using this

theorem EngineTells_i {l asks shut : Sl} {xs : List Int} {as_ : List (Int × Int)} {rows : List (List Int)} {W : World} {Q : Bool → World → Prop} (hl : Rd W l 1 eI xs) (ha : Rd W asks 2 eP as_) (hs : RowsRd W shut rows) (hQ : ∀ w', Keep W w' → Q true w') : F_law20_EngineTells l asks shut W Q := by
  unfold F_law20_EngineTells
  have hll := hl.len
  have hal := ha.len
  have hsl : shut.l = rows.length := by
    obtain ⟨ss, h1, h2, _⟩ := hs
    rw [h1.len, h2]
  refine cond_d (fun _ => awake20_i hQ) (fun h1 => cond_d (fun _ => awake20_i hQ) (fun h2 => cond_d (fun _ => awake20_i hQ) (fun h3 => ?_)))
  refine made20_i hl fun g G E a w7 hE hg ok hn oa k7 _ => ?_
  have hm := ok.m1
  have gl : g.2.1.l = G.m := hg.ed.len
  have gn : g.1.l = G.n := hg.nd.len
  refine cond_i (fun h => by simp at h) (fun _ => cond_i (fun h => by simp at h) (fun _ => ?_))
  refine loop_i (fun c t w8 => ∃ i : Nat, i ≤ as_.length ∧ c = as_.length - i ∧ t = ((i : Int), ()) ∧ Keep w7 w8) as_.length ⟨0, Nat.zero_le _, rfl, rfl, Mod.refl _ _⟩ ?_
  rintro c t w8 ⟨i, hi, rfl, rfl, k8⟩ X hX
  dsimp only
  have K8 := k7.tr k8
  refine cond_d (fun hlt => ?_) (fun hge => awake20_i fun w' k' => hQ w' (K8.tr k'))
  have hi' : i < as_.length := by omega
  have hget := List.getElem?_eq_getElem hi'
  generalize as_[i] = x at *
  intro J hJ
  have core : ∀ w9 s c, Rd w9 s 1 eB c → Keep w7 w9 → J (s, ()) w9 := by
    intro w9 s c hc k9
    apply hJ
    dsimp only
    have d9 : Keep w9 w9.drew := Mod.drew (Mod.refl _ w9)
    have cell : ∀ {wx : World}, Keep w7 wx → _ := fun {wx} kx => rd2 (ha.mod (k7.tr kx) eP_ne fun _ _ => id) hget
    have og : ∀ {wx : World}, Keep w7 wx → Own wx a tAGraph (gcs g) := fun kx => oa.mod kx id
    have kd := k9.tr d9
    obtain ⟨p, hp, _, c0, c1⟩ := cell kd
    rw [Int.toNat_natCast]
    have B : 0 ≤ (i : Int) ∧ (i : Int) < ((asks.l : Nat) : Int) := ⟨by omega, hlt⟩
    have c0' : w9.drew.cell? ((p.add (i * 2)).add (Int.toNat (0 : Int) * 1)) = some (.int .i64 x.1) := c0
    have c1' : ∀ {wx : World}, Keep w7 wx → wx.cell? ((p.add (i * 2)).add (Int.toNat (1 : Int) * 1)) = some (.int .i64 x.2) := fun kx => by
      obtain ⟨p', hp', _, _, cc⟩ := cell kx
      rw [hp] at hp'; cases hp'; exact cc
    have c0'' : ∀ {wx : World}, Keep w7 wx → wx.cell? ((p.add (i * 2)).add (Int.toNat (0 : Int) * 1)) = some (.int .i64 x.1) := fun kx => by
      obtain ⟨p', hp', _, cc, _⟩ := cell kx
      rw [hp] at hp'; cases hp'; exact cc
    refine ⟨B, onSome_i hp ⟨by decide, ld1_i (k := .int .i64) x.1 c0' (ld1_i (k := .slice) g.2.1 (own3 (og kd)).2.1 ⟨B, onSome_i hp ⟨by decide, ld1_i (k := .int .i64) x.2 (c1' kd) (ld1_i (k := .slice) g.1 (own3 (og kd)).1 ?_)⟩⟩)⟩⟩
    rw [w64 (n := ((g.2.1.l : Nat) : Int) + 1) (by omega) (by omega), w64 (n := ((g.1.l : Nat) : Int) + 1) (by omega) (by omega)]
    refine Round_i (by omega) (by omega) ⟨(own3 (og kd)).1, c1' kd, Round_i (by omega) (by omega) ?_⟩
    have dd : Keep w9.drew w9.drew.drew := Mod.drew (Mod.refl _ w9.drew)
    have kdd := kd.tr dd
    generalize x.1 % (((g.2.1.l : Nat) : Int) + 1) = a1
    generalize x.2 % (((g.1.l : Nat) : Int) + 1) = v1
    refine ldN_i (l := [.slice, .slice, .slice]) g (own_g (g := g) (og kdd)) ?_
    refine Way_i (hE.keep kdd) (hc.mod (d9.tr dd) eB_ne fun _ _ => id) fun s1 wt1 f1 r1 l1 w12 hA1 v12 _ l51 k12 _ => ?_
    have k12' := kdd.tr k12
    refine ⟨own_all (og k12'), RAsk_i (hg.keep k12') ok (hc.mod ((d9.tr dd).tr k12) eB_ne fun _ _ => id) fun s2 wt2 f2 r2 l2 w13 hA2 v13 _ k13 => ?_⟩
    obtain ⟨rfl, rfl, rfl, rfl⟩ := ok.ans_uniq hA1 hA2
    refine same_i (a := (s1, wt1, f1, r1, ())) (b := (s2, wt1, f1, r1, ())) ((v12.mod k13 fun _ _ => id).rd lenI) (v13.rd lenI) (by omega) rfl fun w14 k14 => ?_
    refine cond_i (fun h => by simp at h) (fun _ => ?_)
    have k14' := (k12'.tr k13).tr k14
    refine ⟨B, onSome_i hp ⟨by decide, ld1_i (k := .int .i64) x.1 (c0'' k14') ⟨B, onSome_i hp ⟨by decide, ld1_i (k := .int .i64) x.2 (c1' k14') ?_⟩⟩⟩⟩
    refine ldN_i (l := [.slice, .slice, .slice]) g (own_g (g := g) (og k14')) ?_
    refine ⟨B, onSome_i hp ⟨by decide, ld1_i (k := .int .i64) x.1 (c0'' k14') ⟨B, onSome_i hp ⟨by decide, ld1_i (k := .int .i64) x.2 (c1' k14') ?_⟩⟩⟩⟩
    have kc : Keep w9 w14 := (((d9.tr dd).tr k12).tr k13).tr k14
    refine Way_i (hE.keep k14') (hc.mod kc eB_ne fun _ _ => id) fun s3 wt3 f3 r3 l3 w15 hA3 v15 _ l53 k15 _ => ?_
    have k15' := k14'.tr k15
    refine ⟨c1' k15', c0'' k15', own_all (og k15'), RAsk_i (hg.keep k15') ok (hc.mod (kc.tr k15) eB_ne fun _ _ => id) fun s4 wt4 f4 r4 l4 w16 hA4 v16 _ k16 => ?_⟩
    obtain ⟨rfl, rfl, rfl, rfl⟩ := ok.ans_uniq hA3 hA4
    refine same_i (a := (s3, wt3, f3, r3, ())) (b := (s4, wt3, f3, r3, ())) ((v15.mod k16 fun _ _ => id).rd lenI) (v16.rd lenI) (by omega) rfl fun w17 k17 => ?_
    refine cond_i (fun h => by simp at h) (fun _ => ?_)
    rw [wi_ i (by omega)]
    exact hX _ _ _ (by omega) ⟨i + 1, hi', rfl, rfl, (k15'.tr k16).tr k17⟩
  refine cond_d (fun hlt2 => ?_) (fun hge2 => core w8 ⟨none, 0, 0⟩ [] (Rd.nil _ _ _) k8)
  have hir : i < rows.length := by omega
  obtain ⟨_, p, y, hp, hc, hr⟩ := hs.get (List.getElem?_eq_getElem hir)
  have hyl := hr.len
  rw [Int.toNat_natCast]
  have B : 0 ≤ (i : Int) ∧ (i : Int) < ((shut.l : Nat) : Int) := ⟨by omega, hlt2⟩
  refine ⟨B, onSome_i hp (ld1_i (k := .slice) y (K8.cell hc id) (cond_d (fun _ => awake20_i fun w' k' => hQ w' (K8.tr k')) (fun h40 => ?_)))⟩
  have d8 : Keep w8 w8.drew := Mod.drew (Mod.refl _ w8)
  have k8d := k8.tr d8
  refine ldN_i (l := [.slice, .slice, .slice]) g (own_g (g := g) (oa.mod k8d id)) ⟨B, onSome_i hp (ld1_i (k := .slice) y ((K8.tr d8).cell hc id) ?_)⟩
  refine Shut_i (hg.keep k8d) ok (hr.mod (K8.tr d8) eI_ne fun _ _ => id) (by omega) fun s c w19 _ v19 k19 _ => ?_
  exact core w19 s c (v19.rd lenB) (k8d.tr k19)
end Go.Proofs.YtljiijljeipdhaaGreat

/-
  Chapter 20's laws: what they compute is true.
-/
namespace Go.Proofs.YtljiijljeipdhaaGreat
open Go Go.Den

theorem net_least {G : Gr} (ok : OkG G) {v a : Int} (ha : G.isE a) {x : Int} (h : LeastIs (G.gw [] v a) x) : LeastIs (fun d => ∃ t, inSrc G.m (G.inN v) t ∧ Walk G.net (-1) a t d) x := by
  have insrc : ∀ t, inSrc G.m (G.inN v) t ↔ G.src v t := fun t => by
    unfold inSrc; rw [G.mem_inN]; exact ⟨fun h => h.1, fun h => ⟨h, h.1.1, h.1.2⟩⟩
  refine least_equiv h (fun d hg => ?_) (fun d ⟨t, ht, hw⟩ => ?_)
  · obtain ⟨d', t, hle, ht, hwk⟩ := ok.gw_walk hg
    exact ⟨d', hle, t, (insrc t).2 ht, hwk⟩
  · have := OkG.walk_gw hw 0 (.nil ((insrc t).1 ht))
    rw [Int.zero_add] at this
    exact ⟨d, Int.le_refl _, this⟩

theorem EngineLevels_i {at_ node : Int} {l shut : Sl} {xs cs : List Int} {W : World} {Q : Bool → World → Prop} (hl : Rd W l 1 eI xs) (hs : Rd W shut 1 eI cs) (hQ : ∀ w', Keep W w' → Q true w') : F_law20_EngineLevels l at_ node shut W Q := by
  unfold F_law20_EngineLevels
  have hll := hl.len
  have hsl := hs.len
  refine cond_d (fun _ => awake20_i hQ) (fun h1 => cond_d (fun _ => awake20_i hQ) (fun h2 => ?_))
  refine made20_i hl fun g G E a w6 hE hg ok hn oa k6 _ => ?_
  have hm := ok.m1
  have hnn := ok.n1
  have gl : g.2.1.l = G.m := hg.ed.len
  have gn : g.1.l = G.n := hg.nd.len
  refine cond_i (fun h => by simp at h) (fun _ => cond_i (fun h => by simp at h) (fun _ => ?_))
  have d6 : Keep w6 w6.drew := Mod.drew (Mod.refl _ w6)
  have og : ∀ {wx : World}, Keep w6 wx → Own wx a tAGraph (gcs g) := fun kx => oa.mod kx id
  have hd := hE.keep d6
  refine Levels_i hd (cond_i (fun h => by simp at h) (fun _ => ?_))
  refine ld1_i (k := .slice) g.2.1 (own3 (og d6)).2.1 (Levels_i hd ⟨(own3 (og d6)).2.1, onSome_i rfl (ld1_i (k := .ptr) (some ⟨E.L.N.g, 0, none⟩) hd.lev.c0 (Len_i hd.lev.net ⟨(own3 (og d6)).2.1, ?_⟩))⟩)
  refine cond_i (fun h => by rw [gl] at h; simp at h) (fun _ => ?_)
  have dd : Keep w6 w6.drew.drew := d6.tr (Mod.drew (Mod.refl _ w6.drew))
  refine ld1_i (k := .slice) g.2.1 (own3 (og dd)).2.1 (ld1_i (k := .slice) g.1 (own3 (og dd)).1 (Round_i (by omega) (by omega) ⟨(own3 (og dd)).1, Round_i (by omega) (by omega) ?_⟩))
  rw [gl, gn]
  have ha : G.isE (at_ % (G.m : Int)) := ⟨Int.emod_nonneg _ (by omega), Int.emod_lt_of_pos _ (by omega)⟩
  have hv : G.isN (node % (G.n : Int)) := ⟨Int.emod_nonneg _ (by omega), Int.emod_lt_of_pos _ (by omega)⟩
  generalize at_ % (G.m : Int) = e at *
  generalize node % (G.n : Int) = v at *
  -- the edges that come there
  refine loop_i (fun c t w12 => ∃ (i : Nat) (o : Sl), i ≤ G.m ∧ c = G.m - i ∧ t = (o, (i : Int), ()) ∧ Keep w6 w12 ∧ Vec w12 tInt 1 eI o ((ints i).filter fun e => decide (G.to e = v)) ∧ (∀ b, o.b = some b → w6.heap.size ≤ b.block)) G.m
    ⟨0, ⟨none, 0, 0⟩, Nat.zero_le _, rfl, rfl, dd, Vec.nil _ _ _ _, fun b hb => by cases hb⟩ ?_
  rintro c t w12 ⟨i, o, hi, rfl, rfl, k12, v12, f12⟩ X hX
  dsimp only
  refine ld1_i (k := .slice) g.2.1 (own3 (og k12)).2.1 (cond_d (fun hlt => ?_) (fun hge => ?_))
  · have hi' : i < G.m := by omega
    have hEi : G.isE (i : Int) := ⟨by omega, by omega⟩
    obtain ⟨p, hp, _, _, ct, _⟩ := (hg.keep k12).edge hEi
    have hsucc : (ints (i + 1)).filter (fun e => decide (G.to e = v)) = (ints i).filter (fun e => decide (G.to e = v)) ++ if G.to (i : Int) = v then [(i : Int)] else [] := by
      rw [ints_succ, List.filter_append]
      congr 1
      by_cases ht : G.to (i : Int) = v <;> simp [ht]
    have hfl : ((ints i).filter fun e => decide (G.to e = v)).length ≤ 51 := by
      have := List.length_filter_le (fun e => decide (G.to e = v)) (ints i)
      rw [ints_len] at this; omega
    refine ld1_i (k := .slice) g.2.1 (own3 (og k12)).2.1 ⟨⟨by omega, hlt⟩, onSome_i hp (ld1_i (k := .int .i64) (G.to (i : Int)) ct ?_)⟩
    rw [wi_ i (by omega)]
    refine cond_i (fun ht => ?_) (fun ht => ?_)
    · have ht' : G.to (i : Int) = v := by simpa using ht
      rw [if_pos ht'] at hsucc
      refine alloc_i fun w13 o13 k13 z13 => ?_
      have vx : Vec w13 tInt 1 eI ⟨some ⟨w12.heap.size, 0, none⟩, 1, 1⟩ [(i : Int)] := Vec.new lenI [(i : Int)] o13 (by simp [maxLen])
      have z6 := k12.size
      refine append_i elem_sInt lenI oneI (v12.mod k13 fun _ _ => id) (vx.rd lenI) (by simp only [List.length_cons, List.length_nil]; omega) (by simp only [List.length_cons, List.length_nil]; omega) fun r w14 v14 m14 f14 _ => ?_
      refine hX _ _ _ (by omega) ⟨i + 1, r, hi', rfl, rfl, (k12.tr k13).fresh m14 fun k ⟨b, hb, e⟩ => by rw [e]; exact f12 b hb, by rw [hsucc]; exact v14, fun b hb => ?_⟩
      rcases f14 with h1 | ⟨a, ha, hlt'⟩
      · exact f12 b (by rw [← h1]; exact hb)
      · rw [hb] at ha; cases ha; omega
    · have ht' : ¬ G.to (i : Int) = v := by simpa using ht
      rw [if_neg ht', List.append_nil] at hsucc
      exact hX _ _ _ (by omega) ⟨i + 1, o, hi', rfl, rfl, k12, by rw [hsucc]; exact v12, f12⟩
  have ei : i = G.m := by omega
  subst ei
  have hw40 : ∀ e ∈ G.net, e.w ≤ 40 := fun e he => (ok.net_may e he).2.1
  have h12 := hE.keep k12
  have v12' : Vec w12 tInt 1 eI o (G.inN v) := v12
  refine Levels_i h12 (Dist_i h12.lev hm.2 (v12'.rd lenI) (by have := G.inN_len v; omega) fun dd16 w16 hdd k16 => ?_)
  have K16 := k12.tr k16
  refine Way_i (hE.keep K16) (c := []) (Rd.nil _ _ _) fun s1 wt1 f1 r1 l1 w17 hA1 v17 _ l51 k17 _ => ?_
  refine agg_new (vs := eAns (s1, wt1, f1, r1, ())) size_Ans rfl (oneAns _) fun w19 o19 k19 z19 => ?_
  have K19 := (K16.tr k17).tr k19
  refine ldN_i (l := [.slice, .slice, .slice]) g (own_g (g := g) (og K19)) ?_
  refine Shut_i (hg.keep K19) ok (hs.mod (k6.tr K19) eI_ne fun _ _ => id) (by omega) fun s7 c w20 hcl v20 k20 _ => ?_
  have K20 := K19.tr k20
  refine Way_i (hE.keep K20) (v20.rd lenB) fun s2 wt2 f2 r2 l2 w21 hA2 v21 _ l52 k21 _ => ?_
  refine agg_new (vs := eAns (s2, wt2, f2, r2, ())) size_Ans rfl (oneAns _) fun w23 o23 k23 z23 => ?_
  have K23 := (K20.tr k21).tr k23
  have c5 := own4 (((o19.mod k20 id).mod k21 id).mod k23 id)
  have c6 := own4 o23
  have v1' := (((v17.mod k19 fun _ _ => id).mod k20 fun _ _ => id).mod k21 fun _ _ => id).mod k23 fun _ _ => id
  have v2' := v21.mod k23 fun _ _ => id
  have aw : ∀ wz, Keep w23 wz → F_law20_awake wz Q := fun wz kz => awake20_i fun w' k' => hQ w' ((k6.tr (K23.tr kz)).tr k')
  have least := fun {x : Int} => udd_least ok.net_ok hw40 hm.2 (a := e) ha.1 ha.2 (ts := G.inN v) (x := x)
  cases hA1 with
  | no hno =>
    have hd1 : dd16 = -1 := hdd.one (least (net_least ok ha (LeastIs.no fun k hk => hno k hv hk)))
    subst hd1
    obtain ⟨rfl, rfl, rfl, rfl⟩ : l2 = [] ∧ wt2 = 0 ∧ f2 = false ∧ r2 = false := ok.ans_uniq hA2 (.no fun d hN hgw => hno d hN (G.gw_open hgw))
    refine ld1_i (k := .bool) false c5.2.2.1 (cond_i (fun _ => ?_) (fun h => by simp at h))
    refine ld1_i (k := .int .i64) (0 : Int) c5.2.1 (cond_i (fun _ => ?_) (fun h => absurd h (by decide)))
    refine ld1_i (k := .bool) false c5.2.2.2 (cond_i (fun _ => ?_) (fun h => by simp at h))
    refine ld1_i (k := .bool) false c6.2.2.1 (cond_i (fun _ => ?_) (fun h => by simp at h))
    exact ld1_i (k := .bool) false c6.2.2.1 (cond_i (fun _ => aw _ (Mod.refl _ _)) (fun h => by simp at h))
  | far _ _ _ _ _ hsx => obtain ⟨x, _, hx⟩ := hsx; rw [shut_nil] at hx; cases hx
  | @near d0 _ _ _ h0 hl0 _ =>
    have hf0 := hl0.facts ok
    have hd0 : 0 ≤ dsv d0 e := (ok.dsv_le h0 (ok.lway_gw h0 ha hl0 fun x _ => shut_nil x)).1
    have hd1 : dd16 = dsv d0 e := hdd.one (least (net_least ok ha (far_least h0 ha)))
    subst hd1
    have hmx : max (dsv d0 e) 0 = dsv d0 e := by omega
    rw [hmx]
    refine ld1_i (k := .bool) true c5.2.2.1 (cond_i (fun _ => ?_) (fun h => by rw [decide_eq_true hd0] at h; simp at h))
    refine ld1_i (k := .int .i64) (G.wsum l1) c5.2.1 (cond_i (fun _ => ?_) (fun h => by rw [hf0.1] at h; simp at h))
    refine ld1_i (k := .bool) false c5.2.2.2 (cond_i (fun _ => ?_) (fun h => by simp at h))
    -- what the other one says
    have hw2 : f2 = true → dsv d0 e ≤ wt2 ∧ (r2 = false → l1 = l2) := fun hf => by
      cases hA2 with
      | no _ => cases hf
      | near _ _ h0' hl' _ =>
        rw [h0.one h0'] at hl0 ⊢
        have := hl0.uniq hl'
        subst this
        exact ⟨by rw [(hl'.facts ok).1]; exact Int.le_refl _, fun _ => rfl⟩
      | far _ _ _ h1 _ _ hl' =>
        refine ⟨?_, fun h => by cases h⟩
        rw [(hl'.facts ok).1]
        have hg1 := ok.lway_gw h1 ha hl' fun x hx => ((hl'.facts ok).2.2.1 x hx).2
        rw [(hl'.facts ok).1] at hg1
        exact (ok.dsv_le h0 (G.gw_open hg1)).2
    have tail : ∀ (K : Prop), K = (ld1 .bool w23 ((⟨w21.heap.size, 0, none⟩ : Addr).add 3) fun (b9 : Bool) => cond b9 (F_law20_awake w23 fun (b10 : Bool) w25 => Q b10 w25) (ld1 .slice w23 ((⟨w17.heap.size, 0, none⟩ : Addr).add 0) fun (s8 : Sl) => ld1 .slice w23 ((⟨w21.heap.size, 0, none⟩ : Addr).add 0) fun (s9 : Sl) =>
        F_alike_Ints s8 s9 w23 fun (b11 : Bool) w26 => cond b11 (F_law20_awake w26 fun (b12 : Bool) w27 => Q b12 w27) (Q false w26))) → f2 = true → K := by
      rintro K rfl hf
      refine ld1_i (k := .bool) r2 c6.2.2.2 (cond_i (fun _ => aw _ (Mod.refl _ _)) (fun hr => ?_))
      refine ld1_i (k := .slice) s1 c5.1 (ld1_i (k := .slice) s2 c6.1 ?_)
      refine Ints_i (v1'.rd lenI) (v2'.rd lenI) (by omega) fun b w26 k26 hb => ?_
      exact cond_i (fun _ => aw _ k26) (fun h => by rw [hb.2 ((hw2 hf).2 hr)] at h; cases h)
    cases f2 with
    | false =>
      refine ld1_i (k := .bool) false c6.2.2.1 (cond_i (fun _ => ?_) (fun h => by simp at h))
      exact ld1_i (k := .bool) false c6.2.2.1 (cond_i (fun _ => aw _ (Mod.refl _ _)) (fun h => by simp at h))
    | true =>
      refine ld1_i (k := .bool) true c6.2.2.1 (cond_i (fun h => by simp at h) (fun _ => ?_))
      refine ld1_i (k := .bool) true c5.2.2.1 (cond_i (fun _ => ?_) (fun h => by simp at h))
      refine ld1_i (k := .int .i64) wt2 c6.2.1 (cond_d (fun _ => ?_) (fun h => absurd (hw2 rfl).1 h))
      exact ld1_i (k := .bool) true c6.2.2.1 (cond_i (fun h => by simp at h) (fun _ => tail _ rfl rfl))

theorem EngineWays_i {at_ node : Int} {l shut others : Sl} {xs cs : List Int} {os : List (Int × Int)} {W : World} {Q : Bool → World → Prop} (hl : Rd W l 1 eI xs) (hs : Rd W shut 1 eI cs) (ho : Rd W others 2 eP os) (hQ : ∀ w', Keep W w' → Q true w') : F_law20_EngineWays l at_ node shut others W Q := by
  unfold F_law20_EngineWays
  have hll := hl.len
  have hsl := hs.len
  have hol := ho.len
  refine cond_d (fun _ => awake20_i hQ) (fun h1 => cond_d (fun _ => awake20_i hQ) (fun h2 => cond_d (fun _ => awake20_i hQ) (fun h3 => ?_)))
  refine made20_i hl fun g G E a w7 hE hg ok hn oa k7 _ => ?_
  have hm := ok.m1
  have hnn := ok.n1
  have gl : g.2.1.l = G.m := hg.ed.len
  have gn : g.1.l = G.n := hg.nd.len
  refine cond_i (fun h => by simp at h) (fun _ => cond_i (fun h => by simp at h) (fun _ => ?_))
  have d7 : Keep w7 w7.drew := Mod.drew (Mod.refl _ w7)
  have og : ∀ {wx : World}, Keep w7 wx → Own wx a tAGraph (gcs g) := fun kx => oa.mod kx id
  refine ld1_i (k := .slice) g.2.1 (own3 (og d7)).2.1 (ld1_i (k := .slice) g.1 (own3 (og d7)).1 (Round_i (by omega) (by omega) ⟨(own3 (og d7)).1, Round_i (by omega) (by omega) ?_⟩))
  rw [gl, gn]
  have ha : G.isE (at_ % (G.m : Int)) := ⟨Int.emod_nonneg _ (by omega), Int.emod_lt_of_pos _ (by omega)⟩
  have hv : G.isN (node % (G.n : Int)) := ⟨Int.emod_nonneg _ (by omega), Int.emod_lt_of_pos _ (by omega)⟩
  generalize at_ % (G.m : Int) = e at *
  generalize node % (G.n : Int) = v at *
  refine ldN_i (l := [.slice, .slice, .slice]) g (own_g (g := g) (og d7)) ?_
  refine Shut_i (hg.keep d7) ok (hs.mod (k7.tr d7) eI_ne fun _ _ => id) (by omega) fun s3 c w10 hcl v10 k10 _ => ?_
  have K10 := d7.tr k10
  have hc10 := v10.rd lenB
  have hE10 := hE.keep K10
  have hg10 := hg.keep K10
  refine Way_i hE10 hc10 fun s wt f r l w11 hA v11 hlE l51 k11 f11 => ?_
  refine agg_new (vs := eAns (s, wt, f, r, ())) size_Ans rfl (oneAns _) fun w13 o13 k13 z13 => ?_
  have k1013 := k11.tr k13
  have og' : ∀ {wx : World}, Keep w10 wx → Own wx a tAGraph (gcs g) := fun kx => (og K10).mod kx id
  have v13 := v11.mod k13 fun _ _ => id
  refine ldN_i (l := [.slice, .slice, .slice]) g (own_g (g := g) (og' k1013)) ?_
  -- what is found is a way, of the distance's weight
  have between : ∀ (K : Int → World → Prop), (∀ w' d, Keep w13 w' → (f = decide (d ≥ 0)) → (f = false → l = [] ∧ wt = 0 ∧ r = false) → (f = true → wt = d ∧ G.wsum l = d ∧ G.walkB e l = true ∧ G.to (l.getLast?.getD e) = v ∧ ∀ x ∈ l, shutB c x = false) → K d w') → F_ref4_Between (g.1, g.2.1, g.2.2.1, ()) e v s3 w13 K := by
    intro K hK
    refine RBetween_i (g := g) (hg10.keep k1013) ok (hc10.mod k1013 eB_ne fun _ _ => id) (fun w' k' hno => ?_) fun d1 w' _ _ hd1 k' => ?_
    · obtain ⟨rfl, rfl, rfl, rfl⟩ : l = [] ∧ wt = 0 ∧ f = false ∧ r = false := ok.ans_uniq hA (.no hno)
      exact hK w' (-1) k' rfl (fun _ => ⟨rfl, rfl, rfl⟩) fun h => by cases h
    · have yes : ∀ {l : List Int}, G.LWay c d1 e l → 0 ≤ dsv d1 e ∧ G.wsum l = dsv d1 e ∧ G.walkB e l = true ∧ G.to (l.getLast?.getD e) = v ∧ ∀ x ∈ l, shutB c x = false := fun {l} hl => by
        have hf := hl.facts ok
        have hg1 := ok.lway_gw hd1 ha hl fun x hx => (hf.2.2.1 x hx).2
        refine ⟨(ok.dsv_le hd1 hg1).1, hf.1, hf.2.1, ?_, fun x hx => (hf.2.2.1 x hx).2⟩
        have hlast : G.isE (l.getLast?.getD e) := by
          cases hq : l.getLast? with
          | none => exact ha
          | some y => exact (hf.2.2.1 y (List.mem_of_getLast? hq)).1
        exact (ok.zero_src hd1 hlast hf.2.2.2.2).2
      cases hA with
      | no hno =>
        have : ¬ 0 ≤ dsv d1 e := fun h0 => hno _ hv (ok.dsv_gw hd1 ha h0)
        exact hK w' _ k' (by simpa using this) (fun _ => ⟨rfl, rfl, rfl⟩) fun h => by cases h
      | near _ _ h0 hl hs =>
        have hl1 := (ok.lway_same h0 hd1 ha hl hs).1
        obtain ⟨y0, y1, y2, y3, y4⟩ := yes hl1
        exact hK w' _ k' (by simpa using y0) (fun h => by cases h) fun _ => ⟨y1, y1, y2, y3, y4⟩
      | far _ _ _ h1 _ _ hl =>
        rw [h1.one hd1] at hl
        obtain ⟨y0, y1, y2, y3, y4⟩ := yes hl
        exact hK w' _ k' (by simpa using y0) (fun h => by cases h) fun _ => ⟨y1, y1, y2, y3, y4⟩
  refine between _ fun w14 d k14 hfd hno hyes => ?_
  have K14 := k1013.tr k14
  have c14 := own4 (o13.mod k14 id)
  have v14 := v13.mod k14 fun _ _ => id
  have vl := v14.len
  refine ld1_i (k := .bool) f c14.2.2.1 (cond_i (fun h => by rw [hfd] at h; simp at h) (fun _ => ?_))
  refine ld1_i (k := .bool) f c14.2.2.1 (cond_i (fun hf => ?_) (fun hf => ?_))
  · have hf' : f = false := by simpa using hf
    obtain ⟨rfl, rfl, rfl⟩ := hno hf'
    refine ld1_i (k := .slice) s c14.1 (cond_i (fun _ => ?_) (fun h => by rw [vl] at h; simp at h))
    refine ld1_i (k := .int .i64) (0 : Int) c14.2.1 (cond_i (fun _ => ?_) (fun h => by simp at h))
    exact ld1_i (k := .bool) false c14.2.2.2 (cond_i (fun _ => awake20_i fun w' k' => hQ w' ((k7.tr (K10.tr K14)).tr k')) (fun h => by simp at h))
  have hf' : f = true := by simpa using hf
  obtain ⟨rfl, hws, hwk, hend, hsh⟩ := hyes hf'
  refine ldN_i (l := [.slice, .slice, .slice]) g (own_g (g := g) (og' K14)) (ld1_i (k := .slice) s c14.1 ?_)
  refine REnd_i (hg10.keep K14) ok (v14.rd lenI) (by omega) ha hwk hlE fun w16 k16 => ?_
  have K16 := K14.tr k16
  have k1316 := k14.tr k16
  refine ldN_i (l := [.slice, .slice, .slice]) g (own_g (g := g) (og' K16)) (ld1_i (k := .slice) s (own4 (o13.mod k1316 id)).1 ?_)
  refine RWeight_i (hg10.keep K16) ok ((v14.mod k16 fun _ _ => id).rd lenI) (by omega) hlE fun w17 k17 => ?_
  have K17 := K16.tr k17
  have k1317 := k1316.tr k17
  have c17 := own4 (o13.mod k1317 id)
  rw [hend]
  refine cond_i (fun h => by simp at h) (fun _ => cond_i (fun h => by simp at h) (fun _ => cond_i (fun h => by simp at h) (fun _ => cond_i (fun h => by rw [hws] at h; simp at h) (fun _ => ?_))))
  refine ld1_i (k := .int .i64) wt c17.2.1 (cond_i (fun h => by simp at h) (fun _ => ?_))
  refine alloc_i fun w18 o18 k18 z18 => ?_
  have k1318 := k1317.tr k18
  refine ld1_i (k := .slice) s (own4 (o13.mod k1318 id)).1 ?_
  have v18 := (v13.mod k1318 fun _ _ => id)
  have ve : Vec w18 tInt 1 eI ⟨some ⟨w17.heap.size, 0, none⟩, 0, 0⟩ [] := Vec.new lenI [] o18 (by simp)
  refine append_i elem_sInt lenI oneI ve (v18.rd lenI) (by simp; omega) (by simp; omega) fun s8 w19 v19 m19 f19 _ => ?_
  have hz1 := k1317.size
  have hz2 := k1013.size
  have hzA : w11.heap.size < w13.heap.size := by omega
  have slt : ∀ b, s.b = some b → b.block < w11.heap.size := fun b hb => v11.lt hb
  have K19 : Keep w10 w19 := (K17.tr k18).fresh m19 fun k ⟨b, hb, e⟩ => by cases hb; rw [show k = w17.heap.size from e]; exact K17.size
  have s8fr : ∀ b, s8.b = some b → w17.heap.size ≤ b.block := fun b hb => by
    rcases f19 with h | ⟨b', hb', hlt⟩
    · rw [hb] at h; cases h; exact Nat.le_refl _
    · rw [hb] at hb'; cases hb'; have := k18.size; omega
  have o19 := (o13.mod k1318 id).mod m19 fun ⟨b, hb, e⟩ => by cases hb; have e' : w11.heap.size = w17.heap.size := e; omega
  have vs19 := v18.mod m19 fun b hb ⟨b', hb', e⟩ => by cases hb'; have e' : b.block = w17.heap.size := e; have := slt b hb; omega
  have v19' : Vec w19 tInt 1 eI s8 l := by simpa using v19
  -- the asker's own: whatever one does with it
  refine loop_i (fun c' t w20 => ∃ (i : Nat) (ls : List Int), i ≤ l.length ∧ c' = l.length - i ∧ t = ((i : Int), ()) ∧ Keep w10 w20 ∧ Own w20 w11.heap.size tAns (eAns (s, wt, f, r, ())) ∧ Vec w20 tInt 1 eI s ls ∧ ls.length = l.length ∧ (∀ j, i ≤ j → ls[j]? = l[j]?) ∧ Vec w20 tInt 1 eI s8 l) l.length
    ⟨0, l, Nat.zero_le _, rfl, rfl, K19, o19, vs19, rfl, fun _ _ => rfl, v19'⟩ ?_
  rintro c' t w20 ⟨i, ls, hi, rfl, rfl, k20, o20, vs20, hlsl, hls, v8⟩ X hX
  dsimp only
  have c20 := own4 o20
  have sl20 := vs20.len
  refine ld1_i (k := .slice) s c20.1 (cond_d (fun hlt => ?_) (fun hge => ?_))
  · have hi' : i < l.length := by omega
    have hget := List.getElem?_eq_getElem hi'
    have hxE := hlE _ (List.getElem_mem hi')
    have hxs := hsh _ (List.getElem_mem hi')
    have hls' := hls i (Nat.le_refl _)
    rw [hget] at hls'
    generalize l[i] = x at *
    obtain ⟨p, hp, hcp⟩ := rd_cell (k := .int .i64) (e := fun x => x) (vs20.rd lenI) hls'
    have hcm := hc10.mod k20 eB_ne fun _ _ => id
    have hcml := hcm.len
    obtain ⟨q, hq, hcq⟩ := rd_cell (k := .bool) (e := fun x => x) hcm (shutB_get hxE.1 (by rw [hcl]; exact hxE.2))
    rw [Int.toNat_natCast]
    have B : 0 ≤ (i : Int) ∧ (i : Int) < ((s.l : Nat) : Int) := ⟨by omega, hlt⟩
    refine ld1_i (k := .slice) s c20.1 ⟨B, onSome_i hp (ld1_i (k := .int .i64) x hcp ⟨⟨hxE.1, by rw [hcml, hcl]; exact hxE.2⟩, onSome_i hq (ld1_i (k := .bool) (shutB c x) hcq ?_)⟩)⟩
    rw [hxs]
    refine cond_i (fun h => by cases h) (fun _ => ld1_i (k := .slice) s c20.1 ⟨B, ?_⟩)
    obtain ⟨gs, hgs⟩ : ∃ gs, s.b = some ⟨gs, 0, none⟩ := by
      rcases vs20.own with ⟨h, _⟩ | ⟨gb, _, hb, _⟩
      · rw [h] at hp; cases hp
      · exact ⟨gb, hb⟩
    refine onSome_i hgs ?_
    refine vs20.store lenI hgs (i := i) (by omega) (-1 : Int) (v := .int .i64 (-1)) rfl size_Int (oneI _) fun w21 v21 m21 _ => ?_
    have m21' : Mod (fun k => k = gs) w20 w21 := m21
    have gslt : gs < w11.heap.size := slt _ hgs
    have gslo : w10.heap.size ≤ gs := f11 _ hgs
    rw [wi_ i (by omega)]
    refine hX _ _ _ (by omega) ⟨i + 1, _, hi', rfl, rfl, k20.fresh m21' fun k e => by rw [show k = gs from e]; exact gslo, o20.mod m21' fun e => by have e' : w11.heap.size = gs := e; omega, v21, by rw [List.length_set]; exact hlsl, fun j hj => ?_, v8.mod m21' fun b hb e => ?_⟩
    · rw [List.getElem?_set, if_neg (by omega)]; exact hls j (by omega)
    · have e' : b.block = gs := e
      have := s8fr b hb
      omega
  clear hX
  refine loop_i (fun c' t w22 => ∃ i : Nat, i ≤ os.length ∧ c' = os.length - i ∧ t = ((i : Int), ()) ∧ Keep w20 w22) os.length ⟨0, Nat.zero_le _, rfl, rfl, Mod.refl _ _⟩ ?_
  rintro c' t w22 ⟨i2, hi2, rfl, rfl, k22⟩ Y hY
  dsimp only
  have K22 := k20.tr k22
  refine cond_d (fun hlt => ?_) (fun hge2 => ?_)
  · have hi' : i2 < os.length := by omega
    have hget := List.getElem?_eq_getElem hi'
    generalize os[i2] = x at *
    have d22 : Keep w22 w22.drew := Mod.drew (Mod.refl _ w22)
    have kd := K22.tr d22
    obtain ⟨p, hp, _, c0, c1⟩ := rd2 (ho.mod (k7.tr (K10.tr kd)) eP_ne fun _ _ => id) hget
    rw [Int.toNat_natCast]
    have B : 0 ≤ (i2 : Int) ∧ (i2 : Int) < ((others.l : Nat) : Int) := ⟨by omega, hlt⟩
    have c0' : w22.drew.cell? ((p.add (i2 * 2)).add (Int.toNat (0 : Int) * 1)) = some (.int .i64 x.1) := c0
    have c1' : w22.drew.cell? ((p.add (i2 * 2)).add (Int.toNat (1 : Int) * 1)) = some (.int .i64 x.2) := c1
    refine ⟨B, onSome_i hp ⟨by decide, ld1_i (k := .int .i64) x.1 c0' ⟨B, onSome_i hp ⟨by decide, ld1_i (k := .int .i64) x.2 c1' ?_⟩⟩⟩⟩
    refine Way_i (hE10.keep kd) (c := []) (Rd.nil _ _ _) fun _ _ _ _ _ w23 _ _ _ _ k23 _ => ?_
    rw [wi_ i2 (by omega)]
    exact hY _ _ _ (by omega) ⟨i2 + 1, hi', rfl, rfl, (k22.tr d22).tr k23⟩
  refine Way_i (hE10.keep K22) (hc10.mod K22 eB_ne fun _ _ => id) fun s5 wt5 f5 r5 l5 w24 hA5 v24 _ l55 k24 _ => ?_
  obtain ⟨rfl, _, _, _⟩ := ok.ans_uniq hA hA5
  refine Ints_i (v24.rd lenI) (((v8.mod k22 fun _ _ => id).mod k24 fun _ _ => id).rd lenI) (by omega) fun b w25 k25 hb => ?_
  exact cond_i (fun _ => awake20_i fun w' k' => hQ w' ((((k7.tr (K10.tr K22)).tr k24).tr k25).tr k')) (fun h => by rw [hb.2 rfl] at h; cases h)
end Go.Proofs.YtljiijljeipdhaaGreat
