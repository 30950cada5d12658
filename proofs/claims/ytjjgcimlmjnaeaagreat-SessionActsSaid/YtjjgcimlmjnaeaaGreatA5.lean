import Derived.Deep.Strs
import Derived.Test.YtjjgcimlmjnaeaaGreatA4
namespace Go.Den
open Go Go.ChangeShapes Go.WideShapes Go.ChangeAt Go.RowKit Go.Deep
section
variable {H : Type} {enc : TypeId × Value → H} {P : Program} {w : World}
end
end Go.Den

namespace Go.Den
open Go Go.ChangeShapes Go.WideShapes Go.ChangeAt Go.RowKit Go.Deep
section
variable {H : Type} {enc : TypeId × Value → H} {P : Program} {w : World}
theorem arg_raw {t e : TypeId} {m b : Nat} {v : Value} {d : DataW H} {ps : List MemPlace} (ht : P.underlying t = some (.slice e)) (hc : P.cellsOf e = m)
  (hval : Value.okWide P w .any b t v) (h : DataW.Trod enc P w 0 (fun _ => true) true t v d ps) :
  ∃ (s : Sl) (rows : List (List Value)), v = .slice s.b s.l s.c ∧ Rd w s m (fun r => r) rows ∧ ∀ r ∈ rows, r.length = m ∧ ∃ n y, DataW.trod enc P w 0 (fun _ => true) true n e r = some y := by
 obtain ⟨a1, len, cap, rfl⟩ := okWide_slice ht hval
 obtain ⟨fuel, hf⟩ := h
 rcases open_slice ht hf with ⟨hcs, hx⟩ | ⟨a, len', cap', k, n, D, Pl, hcs, _, hl, hm, hk, _, hel⟩
 ·simp [Value.cells] at hcs
  obtain ⟨rfl, rfl, rfl⟩ := hcs
  exact ⟨⟨none, 0, 0⟩, [], rfl, Rd.nil _ _ _, by simp⟩
 ·simp [Value.cells] at hcs
  obtain ⟨rfl, rfl, rfl⟩ := hcs
  have hk' : k = cap := by simpa using hk
  have each : ∀ i, i < len → ∃ r : List Value, (r.length = m ∧ ∃ n y, DataW.trod enc P w 0 (fun _ => true) true n e r = some y) ∧ HoldsAt w (a.add (i * m)) 0 r := by
   intro i hi
   obtain ⟨cs, h1, h2⟩ := hel i (by omega)
   rw [hc] at h1
   obtain ⟨_, hlen, hcell⟩ := World.cells?_some h1
   refine ⟨cs, ⟨hlen, n, _, h2⟩, ?_⟩
   rw [holds_iff]
   intro j v hj
   have hjm : j < m := by have := (List.getElem?_eq_some_iff.1 hj).1; omega
   rw [Nat.zero_add, hcell j hjm]; exact hj
  have build : ∀ q, q ≤ len → ∃ rows : List (List Value), rows.length = q ∧ ∀ i r, rows[i]? = some r → (r.length = m ∧ ∃ n y, DataW.trod enc P w 0 (fun _ => true) true n e r = some y) ∧ HoldsAt w (a.add (i * m)) 0 r := by
   intro q
   induction q with
   | zero => intro _; exact ⟨[], rfl, by simp⟩
   | succ q ih =>
    intro hq
    obtain ⟨rows, h1, h2⟩ := ih (by omega)
    obtain ⟨r, h3, h4⟩ := each q (by omega)
    refine ⟨rows ++ [r], by simp [h1], fun i r' hi => ?_⟩
    by_cases hiq : i < rows.length
    ·rw [List.getElem?_append_left hiq] at hi; exact h2 i r' hi
    ·rw [List.getElem?_append_right (by omega)] at hi
     have : i - rows.length = 0 := by have := (List.getElem?_eq_some_iff.1 hi).1; simp at this; omega
     rw [this] at hi
     simp at hi
     subst hi
     have : i = q := by omega
     subst this
     exact ⟨h3, h4⟩
  obtain ⟨rows, hlr, hrows⟩ := build len (Nat.le_refl _)
  exact ⟨⟨some a, len, cap⟩, rows, rfl, ⟨hlr.symm, hl, fun i r hi => ⟨a, rfl, (hrows i r hi).2⟩⟩, fun r hr => by obtain ⟨i, hi⟩ := List.mem_iff_getElem?.1 hr; exact (hrows i r hi).1⟩
theorem ints_of {t e : TypeId} {n : Nat} {r : List Value} {y : DataW H × List MemPlace} (ht : P.underlying t = some (.slice e)) (he : P.underlying e = some (.int .i64)) (hc : P.cellsOf e = 1) (h : DataW.trod enc P w 0 (fun _ => true) true n t r = some y) :
  ∃ (s : Sl) (xs : List Int), r = [.slice s.b s.l s.c] ∧ Rd w s 1 (fun n => [Value.int .i64 n]) xs := by
 rcases open_ints ht he hc h with ⟨hcs, hx⟩ | ⟨a, len, cap, zs, hcs, _, hl, hm, hz, hx, hcell, hwz⟩
 ·exact ⟨⟨none, 0, 0⟩, [], hcs, Rd.nil _ _ _⟩
 ·have hz' : zs.length = cap := by simpa using hz
  refine ⟨⟨some a, len, cap⟩, zs.take len, hcs, ⟨by simp; omega, hl, fun i x hi => ⟨a, rfl, ?_⟩⟩⟩
  have hlt : i < (zs.take len).length := (List.getElem?_eq_some_iff.1 hi).1
  have hlt' : i < len ∧ i < zs.length := by simp at hlt; omega
  have hx : zs[i]? = some x := by rw [← hi, List.getElem?_take_of_lt hlt'.1]
  refine ⟨?_, trivial⟩
  rw [add_add, Nat.mul_one, Nat.add_zero, hcell i hlt'.2]
  simp [List.getD, hx]
end
end Go.Den

namespace Go.Den
open Go Go.ChangeShapes Go.WideShapes Go.ChangeAt Go.RowKit Go.Deep
structure ActP where
 k : Int
 n : Int
 s : Sl
 l : List Int
abbrev eAct (a : ActP) : List Value := [.int .i64 a.k, .int .i64 a.n, .slice a.s.b a.s.l a.s.c]
section
variable {H : Type} {enc : TypeId × Value → H} {P : Program} {w : World}
theorem act_of {e ti ts : TypeId} {f0 f1 f2 : Field} {n : Nat} {r : List Value} {y : DataW H × List MemPlace} (he : P.underlying e = some (.struct #[f0, f1, f2])) (hce : P.cellsOf e = 3)
  (h0 : f0.type = ti ∧ f0.offset = 0) (h1 : f1.type = ti ∧ f1.offset = 1) (h2 : f2.type = ts ∧ f2.offset = 2) (hi : P.underlying ti = some (.int .i64)) (hci : P.cellsOf ti = 1) (hs : P.underlying ts = some (.slice ti)) (hcs : P.cellsOf ts = 1)
  (h : DataW.trod enc P w 0 (fun _ => true) true n e r = some y) : ∃ a : ActP, r = eAct a ∧ Rd w a.s 1 (fun n => [Value.int .i64 n]) a.l := by
 obtain ⟨y0, y1, y2, m, _, hl, g0, g1, g2⟩ := trod_struct3 he h
 rw [hce] at hl
 rw [h0.1, h0.2, hci] at g0
 rw [h1.1, h1.2, hci] at g1
 rw [h2.1, h2.2, hcs] at g2
 obtain ⟨a0, e0, _⟩ := DataW.trod_int hi g0
 obtain ⟨a1, e1, _⟩ := DataW.trod_int hi g1
 obtain ⟨s, xs, e2, hr⟩ := ints_of hs hi hci g2
 match r, hl with
 | [u, v, z], _ =>
  simp at e0 e1 e2
  subst e0; subst e1; subst e2
  exact ⟨⟨a0, a1, s, xs⟩, rfl, hr⟩
def actF (ti ts : TypeId) : List Field → Bool
 | [f0, f1, f2] => decide (f0.type = ti ∧ f0.offset = 0) && (decide (f1.type = ti ∧ f1.offset = 1) && decide (f2.type = ts ∧ f2.offset = 2))
 | _ => false
def actT (P : Program) (e ti ts : TypeId) : Bool := match P.underlying e with
 | some (.struct fs) => actF ti ts fs.toList
 | _ => false
theorem actT_iff {P : Program} {e ti ts : TypeId} (h : actT P e ti ts = true) : ∃ f0 f1 f2, P.underlying e = some (.struct #[f0, f1, f2]) ∧ (f0.type = ti ∧ f0.offset = 0) ∧ (f1.type = ti ∧ f1.offset = 1) ∧ (f2.type = ts ∧ f2.offset = 2) := by
 unfold actT at h
 split at h
 ·rename_i fs he
  obtain ⟨l⟩ := fs
  match l, h with
  | [f0, f1, f2], h =>
   simp only [actF, Bool.and_eq_true, decide_eq_true_eq] at h
   exact ⟨f0, f1, f2, he, h.1, h.2.1, h.2.2⟩
 ·cases h
theorem arg_acts {t e ti ts : TypeId} {f0 f1 f2 : Field} {b : Nat} {v : Value} {d : DataW H} {ps : List MemPlace} (ht : P.underlying t = some (.slice e)) (he : P.underlying e = some (.struct #[f0, f1, f2])) (hce : P.cellsOf e = 3)
  (h0 : f0.type = ti ∧ f0.offset = 0) (h1 : f1.type = ti ∧ f1.offset = 1) (h2 : f2.type = ts ∧ f2.offset = 2) (hi : P.underlying ti = some (.int .i64)) (hci : P.cellsOf ti = 1) (hs : P.underlying ts = some (.slice ti)) (hcs : P.cellsOf ts = 1)
  (hval : Value.okWide P w .any b t v) (h : DataW.Trod enc P w 0 (fun _ => true) true t v d ps) :
  ∃ (s : Sl) (as : List ActP), v = .slice s.b s.l s.c ∧ Rd w s 3 eAct as ∧ ∀ a ∈ as, Rd w a.s 1 (fun n => [Value.int .i64 n]) a.l := by
 obtain ⟨s, raw, rfl, hr, hraw⟩ := arg_raw ht hce hval h
 have conv : ∀ raw : List (List Value), (∀ r ∈ raw, r.length = 3 ∧ ∃ n y, DataW.trod enc P w 0 (fun _ => true) true n e r = some y) → ∃ as : List ActP, raw = as.map eAct ∧ ∀ a ∈ as, Rd w a.s 1 (fun n => [Value.int .i64 n]) a.l := by
  intro raw
  induction raw with
  | nil => intro _; exact ⟨[], rfl, by simp⟩
  | cons r raw ih =>
   intro hh
   obtain ⟨_, n, y, hy⟩ := hh r (by simp)
   obtain ⟨a, rfl, ha⟩ := act_of he hce h0 h1 h2 hi hci hs hcs hy
   obtain ⟨as, h1, h2⟩ := ih fun r hr => hh r (by simp [hr])
   exact ⟨a :: as, by rw [h1]; rfl, fun b hb => (List.mem_cons.1 hb).elim (fun e => e ▸ ha) (h2 b)⟩
 obtain ⟨as, h1, h2⟩ := conv raw hraw
 refine ⟨s, as, rfl, ⟨by rw [hr.len, h1, List.length_map], hr.cap, fun i x hx => ?_⟩, h2⟩
 exact hr.get i (eAct x) (by rw [h1, List.getElem?_map, hx]; rfl)
end
end Go.Den

namespace Go.Den
open Go
theorem hintS_pos (G : Gr) (p : Ses) : (hintS G p).1.pos = p.pos ∧ (hintS G p).1.node = p.node ∧ (hintS G p).1.way = p.way ∧ (hintS G p).1.has = p.has := by
 unfold hintS; split <;> exact ⟨rfl, rfl, rfl, rfl⟩
theorem askW_pos (G : Gr) (p : Ses) (l : List Int) (w : Int) (f : Bool) : (askW G p l w f).1.pos = p.pos ∧ (askW G p l w f).1.node = p.node ∧ (askW G p l w f).1.way = l ∧ (askW G p l w f).1.has = f := by
 unfold askW
 split
 ·rename_i h; have := hintS_pos G { p with way := l, has := true }; exact ⟨this.1, this.2.1, this.2.2.1, by rw [this.2.2.2, h]⟩
 ·rename_i h; exact ⟨rfl, rfl, rfl, by cases f <;> simp_all⟩
theorem OkG.ansD {G : Gr} (ok : OkG G) {v e : Int} {c : List Bool} {ds l : List Int} {w : Int} {f r : Bool} (hd : G.far c v ds) (he : G.isE e) (hv : G.isN v) (h : G.AnsIs v e c l w f r) :
  (f = true ∧ G.LWay c ds e l ∧ w = dsv ds e ∧ w = G.wsum l ∧ 0 ≤ dsv ds e) ∨ (f = false ∧ l = [] ∧ w = 0 ∧ dsv ds e < 0) := by
 cases h with
 | no hno =>
  refine .inr ⟨rfl, rfl, rfl, ?_⟩
  refine Int.not_le.1 fun h0 => hno _ hv (ok.dsv_gw hd he h0)
 | near _ _ h0 hl hs =>
  obtain ⟨h1, h2⟩ := ok.lway_same h0 hd he hl hs
  have h3 := (h1.facts ok).1
  have h4 := (ok.dsv_le hd (ok.lway_gw h0 he hl hs)).1
  exact .inl ⟨rfl, h1, h3, rfl, h4⟩
 | @far d0 d1 l0 _ _ _ h0 h1 hl0 hs hl =>
  have e1 : d1 = ds := h1.one hd
  subst e1
  have h3 := (hl.facts ok).1
  have hg := ok.lway_gw h1 he hl fun x hx => ((hl.facts ok).2.2.1 x hx).2
  exact .inl ⟨rfl, hl, h3, rfl, (ok.dsv_le h1 hg).1⟩
theorem OkG.to_iff {G : Gr} (ok : OkG G) {v e : Int} {c : List Bool} {ds : List Int} (hd : G.far c v ds) (he : G.isE e) (h0 : 0 ≤ dsv ds e) : G.to e = v ↔ dsv ds e = 0 := by
 refine ⟨fun h => ?_, fun h => (ok.zero_src hd he h).2⟩
 have := ok.dsv_le hd (.nil ⟨he, h⟩)
 omega
theorem AskR.told {G : Gr} (ok : OkG G) {c : List Bool} {ds : List Int} {p : Ses} {z : Ses × List MsgP} (hp : G.isE p.pos) (hn : G.isN p.node) (hd : G.far c p.node ds) (h : AskR G c p z) :
  z.1.pos = p.pos ∧ z.1.node = p.node ∧ ((dsv ds p.pos < 0 ∧ z.1.has = false ∧ z.1.way = [] ∧ z.2 = [mNoRoute] ∧ z.1.over = p.over) ∨
  (0 ≤ dsv ds p.pos ∧ z.1.has = true ∧ G.LWay c ds p.pos z.1.way ∧ ∃ m, z.2 = [mRoute z.1.way (dsv ds p.pos), m] ∧
   ((dsv ds p.pos = 0 ∧ m = mArrived ∧ z.1.over = true) ∨ (0 < dsv ds p.pos ∧ m = mNext (G.hint p.pos z.1.way) ∧ z.1.over = p.over)))) := by
 obtain ⟨l, w, f, r, ha, rfl⟩ := h
 obtain ⟨h1, h2, h3, h4⟩ := askW_pos G p l w f
 refine ⟨h1, h2, ?_⟩
 rw [h3, h4]
 rcases ok.ansD hd hp hn ha with ⟨rfl, hl, hw, _, h0⟩ | ⟨rfl, rfl, rfl, h0⟩
 ·refine .inr ⟨h0, rfl, hl, ?_⟩
  unfold askW
  rw [if_pos rfl]
  unfold hintS
  by_cases e : G.to p.pos = p.node
  ·rw [if_pos e]
   exact ⟨_, by rw [hw], .inl ⟨(ok.to_iff hd hp h0).1 e, rfl, rfl⟩⟩
  ·rw [if_neg e]
   have : dsv ds p.pos ≠ 0 := fun h => e ((ok.to_iff hd hp h0).2 h)
   exact ⟨_, by rw [hw], .inr ⟨by omega, rfl, rfl⟩⟩
 ·refine .inl ⟨h0, rfl, rfl, ?_⟩
  unfold askW
  rw [if_neg (by simp)]
  exact ⟨rfl, rfl⟩
structure FallI (G : Gr) (v : Int) (ds : List Int) (p : Ses) : Prop where
 node : p.node = v
 pos : G.isE p.pos
 st : (p.over = true ∧ p.has = true ∧ dsv ds p.pos = 0) ∨ (p.over = false ∧ ((p.has = true ∧ 0 < dsv ds p.pos ∧ G.LWay [] ds p.pos p.way) ∨ (p.has = false ∧ dsv ds p.pos < 0)))
theorem FallI.ask {G : Gr} (ok : OkG G) {v : Int} {ds : List Int} {p : Ses} {z : Ses × List MsgP} (hv : G.isN v) (hd : G.far [] v ds) (hp : G.isE p.pos) (hn : p.node = v) (ho : p.over = false) (h : AskR G [] p z) : FallI G v ds z.1 := by
 subst hn
 obtain ⟨h1, h2, h3⟩ := h.told ok hp hv hd
 refine ⟨h2, by rw [h1]; exact hp, ?_⟩
 rw [h1]
 rcases h3 with ⟨h4, h5, _, _, h6⟩ | ⟨h4, h5, h6, m, _, ⟨h7, _, h8⟩ | ⟨h7, _, h8⟩⟩
 ·exact .inr ⟨by rw [h6, ho], .inr ⟨h5, h4⟩⟩
 ·exact .inl ⟨h8, h5, h7⟩
 ·exact .inr ⟨by rw [h8, ho], .inl ⟨h5, h7, h6⟩⟩
structure FallS (G : Gr) (v : Int) (ds : List Int) (p : Ses) (x : Int) (z : Ses × List MsgP) : Prop where
 inv : FallI G v ds z.1
 pos : z.1.pos = x
 last : ∃ i m, z.2 = i ++ [m] ∧ (dsv ds x = 0 → m.kind = 8) ∧ (dsv ds x < 0 → m.kind = 6) ∧ (0 < dsv ds x → m.kind = 7 ∧ m.hint.left = dsv ds x)
 on : p.way.head? = some x → z.2.length = 1 ∧ dsv ds x = dsv ds p.pos - G.wt x ∧ z.1.way = p.way.tail
 off : p.way.head? ≠ some x → x ≠ p.pos → ∃ m i, z.2 = m :: i ∧ (m.kind = 5 ∧ m.weight = dsv ds x ∨ m.kind = 6)
theorem FallI.step {G : Gr} (ok : OkG G) {v : Int} {ds : List Int} {p : Ses} {x : Int} {z : Ses × List MsgP} (hv : G.isN v) (hd : G.far [] v ds) (h : FallI G v ds p) (ho : p.over = false) (hh : p.has = true) (hx : G.isE x) (hz : RepR G [] p x z) : FallS G v ds p x z := by
 obtain ⟨h1, h2, h3⟩ := h
 have ⟨h4, h5⟩ : 0 < dsv ds p.pos ∧ G.LWay [] ds p.pos p.way := by
  rcases h3 with ⟨h, _⟩ | ⟨_, ⟨_, h4, h5⟩ | ⟨h, _⟩⟩
  ·rw [ho] at h; cases h
  ·exact ⟨h4, h5⟩
  ·rw [hh] at h; cases h
 have hnt : G.to p.pos ≠ p.node := fun e => by
  rw [h1] at e
  have := (ok.to_iff hd h2 (by omega)).1 e; omega
 have hw1 := ok.w1 hx
 have hhead0 : ∀ wy, G.LWay [] ds p.pos wy → wy.head? = some x → dsv ds x = dsv ds p.pos - G.wt x ∧ G.LWay [] ds x wy.tail ∧ 0 ≤ dsv ds x := fun wy h5 he => by
  cases h5 with
  | nil h => omega
  | @cons _ n l _ hs hl =>
   have e : n = x := by simpa using he
   subst e
   have hst := Gr.step_spec hs
   exact ⟨by omega, hl, hst.2.2.1⟩
 have hhead := hhead0 _ h5
 unfold RepR at hz
 rw [if_neg (by rw [ho]; simp), if_neg (by simpa using hx)] at hz
 split at hz
 ·rename_i hc
  obtain ⟨_, rfl⟩ := hc
  have hz' : z = (p, [mNext (G.hint p.pos p.way)]) := by rw [hz]; unfold hintS; rw [if_neg hnt]
  subst hz'
  have hws := (h5.facts ok).1
  refine ⟨⟨h1, h2, h3⟩, rfl, ⟨[], mNext (G.hint p.pos p.way), rfl, fun h => by omega, fun h => by omega, fun _ => ⟨rfl, hws⟩⟩, fun he => ?_, fun _ hne => absurd rfl hne⟩
  have := (hhead he).1; omega
 ·rename_i hc
  have hne : x ≠ p.pos := fun e => hc ⟨hh, e⟩
  split at hz
  ·rename_i hc2
   obtain ⟨f1, f2, f3⟩ := hhead hc2.2
   by_cases e : G.to x = p.node
   ·have hz' : z = ({ p with pos := x, way := p.way.tail, over := true }, [mArrived]) := by rw [hz]; unfold hintS; rw [if_pos e]
    subst hz'
    rw [h1] at e
    have h0 := (ok.to_iff hd hx f3).1 e
    exact ⟨⟨h1, hx, .inl ⟨rfl, hh, h0⟩⟩, rfl, ⟨[], mArrived, rfl, fun _ => rfl, fun h => by omega, fun h => by omega⟩, fun _ => ⟨rfl, f1, rfl⟩, fun hn _ => absurd hc2.2 hn⟩
   ·have hz' : z = ({ p with pos := x, way := p.way.tail }, [mNext (G.hint x p.way.tail)]) := by rw [hz]; unfold hintS; rw [if_neg e]
    subst hz'
    have h0 : dsv ds x ≠ 0 := fun h => e (by rw [h1]; exact (ok.to_iff hd hx f3).2 h)
    have hws := (f2.facts ok).1
    exact ⟨⟨h1, hx, .inr ⟨ho, .inl ⟨hh, by show 0 < dsv ds x; omega, f2⟩⟩⟩, rfl, ⟨[], mNext (G.hint x p.way.tail), rfl, fun h => absurd h h0, fun h => by omega, fun _ => ⟨rfl, hws⟩⟩, fun _ => ⟨rfl, f1, rfl⟩, fun hn _ => absurd hc2.2 hn⟩
  ·rename_i hc2
   have hF := FallI.ask (p := { p with pos := x }) ok hv hd hx h1 ho hz
   subst h1
   obtain ⟨g1, g2, g3⟩ := AskR.told (p := { p with pos := x }) ok hx hv hd hz
   have hn : p.way.head? ≠ some x := fun e => hc2 ⟨hh, e⟩
   refine ⟨hF, g1, ?_, fun e => absurd e hn, fun _ _ => ?_⟩
   ·rcases g3 with ⟨g4, _, _, g5, _⟩ | ⟨g4, _, g5, m, g6, g7⟩
    ·exact ⟨[], mNoRoute, g5, fun h => by simp only at g4; omega, fun _ => rfl, fun h => by simp only at g4; omega⟩
    ·refine ⟨[mRoute z.1.way (dsv ds x)], m, g6, fun h => ?_, fun h => by simp only at g4; omega, fun h => ?_⟩
     ·rcases g7 with ⟨_, rfl, _⟩ | ⟨g8, _⟩
      ·rfl
      ·simp only at g8; omega
     ·rcases g7 with ⟨g8, _⟩ | ⟨_, rfl, _⟩
      ·simp only at g8; omega
      ·exact ⟨rfl, (g5.facts ok).1⟩
   ·rcases g3 with ⟨g4, _, _, g5, _⟩ | ⟨g4, _, g5, m, g6, g7⟩
    ·exact ⟨_, _, g5, .inr rfl⟩
    ·exact ⟨_, _, g6, .inl ⟨rfl, rfl⟩⟩
theorem ChgR.told {G : Gr} (ok : OkG G) {c : List Bool} {ds : List Int} {p : Ses} {sh op : List Int} {z : Ses × List MsgP} (hp : G.isE p.pos) (hn : G.isN p.node) (hd : G.far c p.node ds) (ho : p.over = false) (h : ChgR G c p sh op z) :
  z.1.pos = p.pos ∧ z.1.node = p.node ∧ ((p.has = true → (∀ x ∈ p.way, x ∉ sh) → z = (p, [])) ∧ ((p.has = true → ∃ x ∈ p.way, x ∈ sh) → dsv ds p.pos < 0 → z.1.has = false ∧ z.2 = if p.has = true then [mNoRoute] else []) ∧
  ((p.has = true → ∃ x ∈ p.way, x ∈ sh) → (p.has = true ∨ op ≠ []) → 0 ≤ dsv ds p.pos → z.1.has = true ∧ (∃ m, z.2 = [mRoute z.1.way (dsv ds p.pos), m]) ∧ ∀ x ∈ z.1.way, G.isE x ∧ shutB c x = false)) := by
 unfold ChgR at h
 rw [if_neg (by rw [ho]; simp)] at h
 split at h
 ·rename_i hh
  split at h
  ·rename_i hm
   obtain ⟨h1, h2, h3⟩ := h.told ok hp hn hd
   refine ⟨h1, h2, fun _ hno => ?_, fun _ hlt => ?_, fun _ _ hge => ?_⟩
   ·obtain ⟨x, hx, hx'⟩ := hm; exact absurd hx' (hno x hx)
   ·rcases h3 with ⟨_, h4, _, h5, _⟩ | ⟨h4, _⟩
    ·rw [if_pos hh]; exact ⟨h4, h5⟩
    ·omega
   ·rcases h3 with ⟨h4, _⟩ | ⟨_, h4, h5, m, h6, _⟩
    ·omega
    ·exact ⟨h4, ⟨m, h6⟩, (h5.facts ok).2.2.1⟩
  ·rename_i hm
   subst h
   exact ⟨rfl, rfl, fun _ _ => rfl, fun he => absurd (he hh) hm, fun he => absurd (he hh) hm⟩
 ·rename_i hh
  have hf : p.has = false := by simpa using hh
  split at h
  ·rename_i he
   subst h
   refine ⟨rfl, rfl, fun h => absurd h hh, fun _ _ => ⟨hf, by rw [if_neg hh]⟩, fun _ h => ?_⟩
   rcases h with h | h
   ·exact absurd h hh
   ·exact absurd he h
  ·obtain ⟨z', h, rfl⟩ := h
   obtain ⟨h1, h2, h3⟩ := h.told ok hp hn hd
   refine ⟨h1, h2, fun h => absurd h hh, fun _ hlt => ?_, fun _ _ hge => ?_⟩
   ·rcases h3 with ⟨_, h4, _, h5, _⟩ | ⟨h4, _⟩
    ·simp [h4, hf]
    ·omega
   ·rcases h3 with ⟨h4, _⟩ | ⟨_, h4, h5, m, h6, _⟩
    ·omega
    ·exact ⟨h4, ⟨m, by simp [h4, h6]⟩, (h5.facts ok).2.2.1⟩
end Go.Den

namespace Go.Den
open Go
theorem AskR.no {G : Gr} (ok : OkG G) {c : List Bool} {p : Ses} {z : Ses × List MsgP} (hn : G.isN p.node) (hno : ∀ d, ¬ G.gw c p.node p.pos d) (h : AskR G c p z) : z = ({ p with way := [], has := false }, [mNoRoute]) := by
 obtain ⟨l, w, f, r, hA, rfl⟩ := h
 cases hA with
 | no _ => unfold askW; rw [if_neg (by simp)]
 | near _ he h0 hl hs => exact absurd (ok.lway_gw h0 he hl hs) (hno _)
 | far _ he _ h1 _ _ hl => exact absurd (ok.lway_gw h1 he hl fun x hx => ((hl.facts ok).2.2.1 x hx).2) (hno _)
theorem AskR.yes {G : Gr} (ok : OkG G) {c : List Bool} {ds l : List Int} {p : Ses} {z : Ses × List MsgP} (hp : G.isE p.pos) (hn : G.isN p.node) (hd : G.far c p.node ds) (hl : G.LWay c ds p.pos l) (h : AskR G c p z) :
  z.1.has = true ∧ z.1.way = l ∧ ∃ m, z.2 = [mRoute l (dsv ds p.pos), m] := by
 obtain ⟨_, _, h3⟩ := h.told ok hp hn hd
 rcases h3 with ⟨h4, _⟩ | ⟨_, h5, h6, m, h7, _⟩
 ·cases hl with
  | nil h => omega
  | cons h _ _ => omega
 ·have e := h6.uniq hl
  rw [e] at h7
  exact ⟨h5, e, m, h7⟩
theorem AskR.pos {G : Gr} {c : List Bool} {p : Ses} {z : Ses × List MsgP} (h : AskR G c p z) : z.1.pos = p.pos ∧ z.1.node = p.node := by
 obtain ⟨l, w, f, r, _, rfl⟩ := h
 have := askW_pos G p l w f
 exact ⟨this.1, this.2.1⟩
theorem ChgR.pos {G : Gr} {c : List Bool} {p : Ses} {sh op : List Int} {z : Ses × List MsgP} (h : ChgR G c p sh op z) : z.1.pos = p.pos ∧ z.1.node = p.node := by
 unfold ChgR at h
 by_cases h1 : p.over = true
 ·rw [if_pos h1] at h; rw [h]; exact ⟨rfl, rfl⟩
 ·rw [if_neg h1] at h
  by_cases h2 : p.has = true
  ·rw [if_pos h2] at h
   by_cases h3 : ∃ e ∈ p.way, e ∈ sh
   ·rw [if_pos h3] at h; exact h.pos
   ·rw [if_neg h3] at h; rw [h]; exact ⟨rfl, rfl⟩
  ·rw [if_neg h2] at h
   by_cases h3 : op = []
   ·rw [if_pos h3] at h; rw [h]; exact ⟨rfl, rfl⟩
   ·rw [if_neg h3] at h
    obtain ⟨z', hz, rfl⟩ := h
    exact hz.pos
theorem ChgR.no {G : Gr} (ok : OkG G) {c : List Bool} {p : Ses} {sh op : List Int} {z : Ses × List MsgP} (hn : G.isN p.node) (hno : ∀ d, ¬ G.gw c p.node p.pos d) (ho : p.over = false) (h : ChgR G c p sh op z) (hm : p.has = true → ∃ x ∈ p.way, x ∈ sh) :
  z.1.has = false ∧ z.2 = if p.has = true then [mNoRoute] else [] := by
 unfold ChgR at h
 rw [if_neg (by rw [ho]; simp)] at h
 by_cases h2 : p.has = true
 ·rw [if_pos h2, if_pos (hm h2)] at h
  rw [h.no ok hn hno, if_pos h2]; exact ⟨rfl, rfl⟩
 ·have hf : p.has = false := by simpa using h2
  rw [if_neg h2] at h
  rw [if_neg h2]
  by_cases h3 : op = []
  ·rw [if_pos h3] at h; rw [h]; exact ⟨hf, rfl⟩
  ·rw [if_neg h3] at h
   obtain ⟨z', hz, rfl⟩ := h
   rw [hz.no ok hn hno]; exact ⟨rfl, rfl⟩
end Go.Den
