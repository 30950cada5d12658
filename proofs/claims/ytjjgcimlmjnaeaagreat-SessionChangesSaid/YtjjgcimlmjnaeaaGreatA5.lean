/-
  Arguments that are slices of structs or arrays of whole numbers.
-/
import Derived.Deep.Slices
import Derived.Deep.Strs
import Derived.Test.YtjjgcimlmjnaeaaGreatA4
namespace Go.Den
open Go Go.ChangeShapes Go.WideShapes Go.ChangeAt Go.RowKit Go.Deep

/-- Is the cell 'i' of a type a whole number of 64 bits? -/
def leaf64 (P : Program) : Nat → TypeId → Nat → Bool
  | 0, _, _ => false
  | d + 1, t, i => match P.underlying t with
    | some (.int .i64) => Nat.beq i 0
    | some (.struct fs) => fs.toList.any fun f => Nat.ble f.offset i && Nat.blt i (f.offset + P.cellsOf f.type) && leaf64 P d f.type (i - f.offset)
    | some (.array n e) => Nat.blt 0 (P.cellsOf e) && Nat.blt (i / P.cellsOf e) n && leaf64 P d e (i % P.cellsOf e)
    | _ => false
def leaves64 (P : Program) (t : TypeId) (n : Nat) : Bool := allLt (fun i => leaf64 P 5 t i) n

theorem mapM_each {α β : Type} {f : α → Option β} : ∀ {l : List α} {ys : List β}, l.mapM f = some ys → ∀ x ∈ l, ∃ y, f x = some y
  | [], _, _, x, hx => by cases hx
  | a :: l, ys, h, x, hx => by
    simp only [List.mapM_cons, Option.bind_eq_bind, Option.pure_def] at h
    cases ha : f a with
    | none => simp [ha] at h
    | some y =>
      cases hl : l.mapM f with
      | none => simp [ha, hl] at h
      | some zs =>
        rcases List.mem_cons.1 hx with e | hx
        · subst e; exact ⟨y, ha⟩
        · exact mapM_each hl x hx

section
variable {H : Type} {enc : TypeId × Value → H} {P : Program} {w : World} {base : Nat} {spare : Nat → Bool} {held : Bool}

theorem leaf64_spec : ∀ (d : Nat) {fuel : Nat} {t : TypeId} {cs : List Value} {x : DataW H × List MemPlace} {i : Nat}, leaf64 P d t i = true → DataW.trod enc P w base spare held fuel t cs = some x → ∃ n : Int, cs[i]? = some (.int .i64 n)
  | 0, _, _, _, _, _, h, _ => by simp [leaf64] at h
  | d + 1, 0, _, _, _, _, _, hx => by simp [DataW.trod] at hx
  | d + 1, fuel + 1, t, cs, x, i, h, hx => by
    unfold leaf64 at h
    cases hu : P.underlying t with
    | none => rw [hu] at h; cases h
    | some u =>
      rw [hu] at h
      cases u
      case int k =>
        cases k <;> try (cases h; done)
        obtain ⟨n, hc, _, _⟩ := DataW.trod_int hu hx
        have hi : i = 0 := Nat.eq_of_beq_eq_true h
        subst hi
        exact ⟨n, by rw [hc]; rfl⟩
      case struct fs =>
        have hx' : (if cs.length = P.cellsOf t then (fs.toList.mapM fun f => DataW.trod enc P w base spare held fuel f.type ((cs.drop f.offset).take (P.cellsOf f.type))).map fun xs => (DataW.agg (xs.map (·.1)), xs.flatMap (·.2)) else none) = some x := by
          rw [← hx]
          conv => rhs; unfold DataW.trod; rw [hu]
        split at hx'
        · simp only [List.any_eq_true, Bool.and_eq_true] at h
          obtain ⟨f, hf, ⟨h1, h2⟩, h3⟩ := h
          cases hm : (fs.toList.mapM fun f => DataW.trod enc P w base spare held fuel f.type ((cs.drop f.offset).take (P.cellsOf f.type))) with
          | none => rw [hm] at hx'; cases hx'
          | some ys =>
            obtain ⟨y, hy⟩ := mapM_each hm f hf
            obtain ⟨n, hn⟩ := leaf64_spec d h3 hy
            have l1 : f.offset ≤ i := Nat.le_of_ble_eq_true h1
            have l2 : i < f.offset + P.cellsOf f.type := by simpa using h2
            rw [List.getElem?_take_of_lt (by omega), List.getElem?_drop, show f.offset + (i - f.offset) = i by omega] at hn
            exact ⟨n, hn⟩
        · cases hx'
      case array m e =>
        have hx' : (if cs.length = P.cellsOf t then ((List.range m).mapM fun i => DataW.trod enc P w base spare held fuel e ((cs.drop (i * P.cellsOf e)).take (P.cellsOf e))).map fun xs => (DataW.agg (xs.map (·.1)), xs.flatMap (·.2)) else none) = some x := by
          rw [← hx]
          conv => rhs; unfold DataW.trod; rw [hu]
        split at hx'
        · simp only [Bool.and_eq_true] at h
          obtain ⟨⟨h0, h1⟩, h3⟩ := h
          have l0 : 0 < P.cellsOf e := by simpa using h0
          have l1 : i / P.cellsOf e < m := by simpa using h1
          cases hm : ((List.range m).mapM fun i => DataW.trod enc P w base spare held fuel e ((cs.drop (i * P.cellsOf e)).take (P.cellsOf e))) with
          | none => rw [hm] at hx'; cases hx'
          | some ys =>
            obtain ⟨y, hy⟩ := mapM_each hm (i / P.cellsOf e) (List.mem_range.2 l1)
            obtain ⟨n, hn⟩ := leaf64_spec d h3 hy
            rw [List.getElem?_take_of_lt (Nat.mod_lt _ l0), List.getElem?_drop, Nat.div_add_mod'] at hn
            exact ⟨n, hn⟩
        · cases hx'
      all_goals cases h

/-- A slice whose elements are whole numbers all through. -/
theorem arg_rows {t e : TypeId} {m b : Nat} {v : Value} {d : DataW H} {ps : List MemPlace} (ht : P.underlying t = some (.slice e)) (hc : P.cellsOf e = m) (hlf : leaves64 P e m = true)
    (hval : Value.okWide P w .any b t v) (h : DataW.Trod enc P w 0 (fun _ => true) true t v d ps) :
    ∃ (s : Sl) (rows : List (List Int)), v = .slice s.b s.l s.c ∧ Rd w s m (fun r => r.map (Value.int .i64)) rows ∧ (∀ r ∈ rows, r.length = m) := by
  obtain ⟨a1, len, cap, rfl⟩ := okWide_slice ht hval
  obtain ⟨fuel, hf⟩ := h
  rcases open_slice ht hf with ⟨hcs, hx⟩ | ⟨a, len', cap', k, n, D, Pl, hcs, _, hl, hm, hk, _, hel⟩
  · simp [Value.cells] at hcs
    obtain ⟨rfl, rfl, rfl⟩ := hcs
    exact ⟨⟨none, 0, 0⟩, [], rfl, Rd.nil _ _ _, by simp⟩
  · simp [Value.cells] at hcs
    obtain ⟨rfl, rfl, rfl⟩ := hcs
    have hk' : k = cap := by simpa using hk
    have each : ∀ i, i < len → ∃ r : List Int, r.length = m ∧ HoldsAt w (a.add (i * m)) 0 (r.map (Value.int .i64)) := by
      intro i hi
      obtain ⟨cs, h1, h2⟩ := hel i (by omega)
      rw [hc] at h1
      obtain ⟨_, hlen, hcell⟩ := World.cells?_some h1
      have hints : ∀ j, j < m → ∃ n : Int, cs[j]? = some (.int .i64 n) := fun j hj => leaf64_spec 5 (allLt_spec hlf j hj) h2
      have conv : ∀ (cs : List Value), (∀ j, j < cs.length → ∃ n : Int, cs[j]? = some (.int .i64 n)) → ∃ r : List Int, cs = r.map (Value.int .i64) := by
        intro cs
        induction cs with
        | nil => intro _; exact ⟨[], rfl⟩
        | cons c cs ih =>
          intro hh
          obtain ⟨n, hn⟩ := hh 0 (by simp)
          simp at hn
          obtain ⟨r, hr⟩ := ih fun j hj => hh (j + 1) (by simpa using hj)
          exact ⟨n :: r, by rw [hn, hr]; rfl⟩
      obtain ⟨r, hr⟩ := conv cs fun j hj => hints j (by omega)
      refine ⟨r, by rw [← hlen, hr]; simp, ?_⟩
      rw [holds_iff]
      intro j v hj
      rw [← hr] at hj
      have hjm : j < m := by have := (List.getElem?_eq_some_iff.1 hj).1; omega
      rw [Nat.zero_add, hcell j hjm]; exact hj
    obtain ⟨rows, hlr, hrows⟩ : ∃ rows : List (List Int), rows.length = len ∧ ∀ i r, rows[i]? = some r → r.length = m ∧ HoldsAt w (a.add (i * m)) 0 (r.map (Value.int .i64)) := by
      have build : ∀ q, q ≤ len → ∃ rows : List (List Int), rows.length = q ∧ ∀ i r, rows[i]? = some r → r.length = m ∧ HoldsAt w (a.add (i * m)) 0 (r.map (Value.int .i64)) := by
        intro q
        induction q with
        | zero => intro _; exact ⟨[], rfl, by simp⟩
        | succ q ih =>
          intro hq
          obtain ⟨rows, h1, h2⟩ := ih (by omega)
          obtain ⟨r, h3, h4⟩ := each q (by omega)
          refine ⟨rows ++ [r], by simp [h1], fun i r' hi => ?_⟩
          by_cases hiq : i < rows.length
          · rw [List.getElem?_append_left hiq] at hi; exact h2 i r' hi
          · rw [List.getElem?_append_right (by omega)] at hi
            have : i - rows.length = 0 := by have := (List.getElem?_eq_some_iff.1 hi).1; simp at this; omega
            rw [this] at hi
            simp at hi
            subst hi
            have : i = q := by omega
            subst this
            exact ⟨h3, h4⟩
      exact build len (Nat.le_refl _)
    exact ⟨⟨some a, len, cap⟩, rows, rfl, ⟨hlr.symm, hl, fun i r hi => ⟨a, rfl, (hrows i r hi).2⟩⟩, fun r hr => by obtain ⟨i, hi⟩ := List.mem_iff_getElem?.1 hr; exact (hrows i r hi).1⟩
end

/-- The same rows, otherwise told. -/
theorem Rd.map {α β : Type} {w : World} {s : Sl} {n : Nat} {e : α → List Value} {e' : β → List Value} {xs : List α} (h : Rd w s n e xs) (f : α → β) (hf : ∀ x ∈ xs, e' (f x) = e x) : Rd w s n e' (xs.map f) := by
  refine ⟨by rw [List.length_map]; exact h.len, h.cap, fun i y hy => ?_⟩
  rw [List.getElem?_map] at hy
  cases hx : xs[i]? with
  | none => rw [hx] at hy; cases hy
  | some x =>
    rw [hx] at hy
    cases hy
    obtain ⟨a, ha, hh⟩ := h.get i x hx
    exact ⟨a, ha, by rw [hf x (List.mem_of_getElem? hx)]; exact hh⟩
end Go.Den

/-
  Arguments that are slices of bools.
-/
namespace Go.Den
open Go Go.ChangeShapes Go.WideShapes Go.ChangeAt Go.RowKit Go.Deep

section
variable {H : Type} {enc : TypeId × Value → H} {P : Program} {w : World}
end
end Go.Den

/-
  Arguments that are slices of anything: their elements' cells; slices of slices of whole numbers.
-/
namespace Go.Den
open Go Go.ChangeShapes Go.WideShapes Go.ChangeAt Go.RowKit Go.Deep

section
variable {H : Type} {enc : TypeId × Value → H} {P : Program} {w : World}
end
end Go.Den

/-
  Arguments that are slices of (a number, a number, a slice of whole numbers).
-/
namespace Go.Den
open Go Go.ChangeShapes Go.WideShapes Go.ChangeAt Go.RowKit Go.Deep

structure ActP where
  k : Int
  n : Int
  s : Sl
  l : List Int
section
variable {H : Type} {enc : TypeId × Value → H} {P : Program} {w : World}
end
end Go.Den

/-
  A driver's session: what is told, as the laws say it. No program in sight.
-/
namespace Go.Den
open Go

theorem hintS_pos (G : Gr) (p : Ses) : (hintS G p).1.pos = p.pos ∧ (hintS G p).1.node = p.node ∧ (hintS G p).1.way = p.way ∧ (hintS G p).1.has = p.has := by
  unfold hintS; split <;> exact ⟨rfl, rfl, rfl, rfl⟩
theorem askW_pos (G : Gr) (p : Ses) (l : List Int) (w : Int) (f : Bool) : (askW G p l w f).1.pos = p.pos ∧ (askW G p l w f).1.node = p.node ∧ (askW G p l w f).1.way = l ∧ (askW G p l w f).1.has = f := by
  unfold askW
  split
  · rename_i h; have := hintS_pos G { p with way := l, has := true }; exact ⟨this.1, this.2.1, this.2.2.1, by rw [this.2.2.2, h]⟩
  · rename_i h; exact ⟨rfl, rfl, rfl, by cases f <;> simp_all⟩
/-- What is answered, by how far it is. -/
theorem OkG.ansD {G : Gr} (ok : OkG G) {v e : Int} {c : List Bool} {ds l : List Int} {w : Int} {f r : Bool} (hd : G.far c v ds) (he : G.isE e) (hv : G.isN v) (h : G.AnsIs v e c l w f r) :
    (f = true ∧ G.LWay c ds e l ∧ w = dsv ds e ∧ w = G.wsum l ∧ 0 ≤ dsv ds e) ∨ (f = false ∧ l = [] ∧ w = 0 ∧ dsv ds e < 0) := by
  cases h with
  | no hno =>
    refine .inr ⟨rfl, rfl, rfl, ?_⟩
    refine Int.not_le.1 fun h0 => hno _ hv (ok.dsv_gw hd he h0)
  | near _ _ h0 hl hs =>
    obtain ⟨h1, h2⟩ := ok.lway_same h0 hd he hl hs
    have h3 := (h1.facts ok).1
    have h4 := (ok.dsv_le hd (ok.lway_gw h0 he hl hs)).1
    exact .inl ⟨rfl, h1, h3, rfl, h4⟩
  | @far d0 d1 l0 _ _ _ h0 h1 hl0 hs hl =>
    have e1 : d1 = ds := h1.one hd
    subst e1
    have h3 := (hl.facts ok).1
    have hg := ok.lway_gw h1 he hl fun x hx => ((hl.facts ok).2.2.1 x hx).2
    exact .inl ⟨rfl, hl, h3, rfl, (ok.dsv_le h1 hg).1⟩
theorem OkG.to_iff {G : Gr} (ok : OkG G) {v e : Int} {c : List Bool} {ds : List Int} (hd : G.far c v ds) (he : G.isE e) (h0 : 0 ≤ dsv ds e) : G.to e = v ↔ dsv ds e = 0 := by
  refine ⟨fun h => ?_, fun h => (ok.zero_src hd he h).2⟩
  have := ok.dsv_le hd (.nil ⟨he, h⟩)
  omega
/-- What is told if it asks. -/
theorem AskR.told {G : Gr} (ok : OkG G) {c : List Bool} {ds : List Int} {p : Ses} {z : Ses × List MsgP} (hp : G.isE p.pos) (hn : G.isN p.node) (hd : G.far c p.node ds) (h : AskR G c p z) :
    z.1.pos = p.pos ∧ z.1.node = p.node ∧ ((dsv ds p.pos < 0 ∧ z.1.has = false ∧ z.1.way = [] ∧ z.2 = [mNoRoute] ∧ z.1.over = p.over) ∨
    (0 ≤ dsv ds p.pos ∧ z.1.has = true ∧ G.LWay c ds p.pos z.1.way ∧ ∃ m, z.2 = [mRoute z.1.way (dsv ds p.pos), m] ∧
      ((dsv ds p.pos = 0 ∧ m = mArrived ∧ z.1.over = true) ∨ (0 < dsv ds p.pos ∧ m = mNext (G.hint p.pos z.1.way) ∧ z.1.over = p.over)))) := by
  obtain ⟨l, w, f, r, ha, rfl⟩ := h
  obtain ⟨h1, h2, h3, h4⟩ := askW_pos G p l w f
  refine ⟨h1, h2, ?_⟩
  rw [h3, h4]
  rcases ok.ansD hd hp hn ha with ⟨rfl, hl, hw, _, h0⟩ | ⟨rfl, rfl, rfl, h0⟩
  · refine .inr ⟨h0, rfl, hl, ?_⟩
    unfold askW
    rw [if_pos rfl]
    unfold hintS
    by_cases e : G.to p.pos = p.node
    · rw [if_pos e]
      exact ⟨_, by rw [hw], .inl ⟨(ok.to_iff hd hp h0).1 e, rfl, rfl⟩⟩
    · rw [if_neg e]
      have : dsv ds p.pos ≠ 0 := fun h => e ((ok.to_iff hd hp h0).2 h)
      exact ⟨_, by rw [hw], .inr ⟨by omega, rfl, rfl⟩⟩
  · refine .inl ⟨h0, rfl, rfl, ?_⟩
    unfold askW
    rw [if_neg (by simp)]
    exact ⟨rfl, rfl⟩
/-- A session that falls. -/
structure FallI (G : Gr) (v : Int) (ds : List Int) (p : Ses) : Prop where
  node : p.node = v
  pos : G.isE p.pos
  st : (p.over = true ∧ p.has = true ∧ dsv ds p.pos = 0) ∨ (p.over = false ∧ ((p.has = true ∧ 0 < dsv ds p.pos ∧ G.LWay [] ds p.pos p.way) ∨ (p.has = false ∧ dsv ds p.pos < 0)))
theorem FallI.ask {G : Gr} (ok : OkG G) {v : Int} {ds : List Int} {p : Ses} {z : Ses × List MsgP} (hv : G.isN v) (hd : G.far [] v ds) (hp : G.isE p.pos) (hn : p.node = v) (ho : p.over = false) (h : AskR G [] p z) : FallI G v ds z.1 := by
  subst hn
  obtain ⟨h1, h2, h3⟩ := h.told ok hp hv hd
  refine ⟨h2, by rw [h1]; exact hp, ?_⟩
  rw [h1]
  rcases h3 with ⟨h4, h5, _, _, h6⟩ | ⟨h4, h5, h6, m, _, ⟨h7, _, h8⟩ | ⟨h7, _, h8⟩⟩
  · exact .inr ⟨by rw [h6, ho], .inr ⟨h5, h4⟩⟩
  · exact .inl ⟨h8, h5, h7⟩
  · exact .inr ⟨by rw [h8, ho], .inl ⟨h5, h7, h6⟩⟩
structure FallS (G : Gr) (v : Int) (ds : List Int) (p : Ses) (x : Int) (z : Ses × List MsgP) : Prop where
  inv : FallI G v ds z.1
  pos : z.1.pos = x
  last : ∃ i m, z.2 = i ++ [m] ∧ (dsv ds x = 0 → m.kind = 8) ∧ (dsv ds x < 0 → m.kind = 6) ∧ (0 < dsv ds x → m.kind = 7 ∧ m.hint.left = dsv ds x)
  on : p.way.head? = some x → z.2.length = 1 ∧ dsv ds x = dsv ds p.pos - G.wt x ∧ z.1.way = p.way.tail
  off : p.way.head? ≠ some x → x ≠ p.pos → ∃ m i, z.2 = m :: i ∧ (m.kind = 5 ∧ m.weight = dsv ds x ∨ m.kind = 6)
theorem FallI.step {G : Gr} (ok : OkG G) {v : Int} {ds : List Int} {p : Ses} {x : Int} {z : Ses × List MsgP} (hv : G.isN v) (hd : G.far [] v ds) (h : FallI G v ds p) (ho : p.over = false) (hh : p.has = true) (hx : G.isE x) (hz : RepR G [] p x z) : FallS G v ds p x z := by
  obtain ⟨h1, h2, h3⟩ := h
  have ⟨h4, h5⟩ : 0 < dsv ds p.pos ∧ G.LWay [] ds p.pos p.way := by
    rcases h3 with ⟨h, _⟩ | ⟨_, ⟨_, h4, h5⟩ | ⟨h, _⟩⟩
    · rw [ho] at h; cases h
    · exact ⟨h4, h5⟩
    · rw [hh] at h; cases h
  have hnt : G.to p.pos ≠ p.node := fun e => by
    rw [h1] at e
    have := (ok.to_iff hd h2 (by omega)).1 e; omega
  have hw1 := ok.w1 hx
  have hhead0 : ∀ wy, G.LWay [] ds p.pos wy → wy.head? = some x → dsv ds x = dsv ds p.pos - G.wt x ∧ G.LWay [] ds x wy.tail ∧ 0 ≤ dsv ds x := fun wy h5 he => by
    cases h5 with
    | nil h => omega
    | @cons _ n l _ hs hl =>
      have e : n = x := by simpa using he
      subst e
      have hst := Gr.step_spec hs
      exact ⟨by omega, hl, hst.2.2.1⟩
  have hhead := hhead0 _ h5
  unfold RepR at hz
  rw [if_neg (by rw [ho]; simp), if_neg (by simpa using hx)] at hz
  split at hz
  · rename_i hc
    obtain ⟨_, rfl⟩ := hc
    have hz' : z = (p, [mNext (G.hint p.pos p.way)]) := by rw [hz]; unfold hintS; rw [if_neg hnt]
    subst hz'
    have hws := (h5.facts ok).1
    refine ⟨⟨h1, h2, h3⟩, rfl, ⟨[], mNext (G.hint p.pos p.way), rfl, fun h => by omega, fun h => by omega, fun _ => ⟨rfl, hws⟩⟩, fun he => ?_, fun _ hne => absurd rfl hne⟩
    have := (hhead he).1; omega
  · rename_i hc
    have hne : x ≠ p.pos := fun e => hc ⟨hh, e⟩
    split at hz
    · rename_i hc2
      obtain ⟨f1, f2, f3⟩ := hhead hc2.2
      by_cases e : G.to x = p.node
      · have hz' : z = ({ p with pos := x, way := p.way.tail, over := true }, [mArrived]) := by rw [hz]; unfold hintS; rw [if_pos e]
        subst hz'
        rw [h1] at e
        have h0 := (ok.to_iff hd hx f3).1 e
        exact ⟨⟨h1, hx, .inl ⟨rfl, hh, h0⟩⟩, rfl, ⟨[], mArrived, rfl, fun _ => rfl, fun h => by omega, fun h => by omega⟩, fun _ => ⟨rfl, f1, rfl⟩, fun hn _ => absurd hc2.2 hn⟩
      · have hz' : z = ({ p with pos := x, way := p.way.tail }, [mNext (G.hint x p.way.tail)]) := by rw [hz]; unfold hintS; rw [if_neg e]
        subst hz'
        have h0 : dsv ds x ≠ 0 := fun h => e (by rw [h1]; exact (ok.to_iff hd hx f3).2 h)
        have hws := (f2.facts ok).1
        exact ⟨⟨h1, hx, .inr ⟨ho, .inl ⟨hh, by show 0 < dsv ds x; omega, f2⟩⟩⟩, rfl, ⟨[], mNext (G.hint x p.way.tail), rfl, fun h => absurd h h0, fun h => by omega, fun _ => ⟨rfl, hws⟩⟩, fun _ => ⟨rfl, f1, rfl⟩, fun hn _ => absurd hc2.2 hn⟩
    · rename_i hc2
      have hF := FallI.ask (p := { p with pos := x }) ok hv hd hx h1 ho hz
      subst h1
      obtain ⟨g1, g2, g3⟩ := AskR.told (p := { p with pos := x }) ok hx hv hd hz
      have hn : p.way.head? ≠ some x := fun e => hc2 ⟨hh, e⟩
      refine ⟨hF, g1, ?_, fun e => absurd e hn, fun _ _ => ?_⟩
      · rcases g3 with ⟨g4, _, _, g5, _⟩ | ⟨g4, _, g5, m, g6, g7⟩
        · exact ⟨[], mNoRoute, g5, fun h => by simp only at g4; omega, fun _ => rfl, fun h => by simp only at g4; omega⟩
        · refine ⟨[mRoute z.1.way (dsv ds x)], m, g6, fun h => ?_, fun h => by simp only at g4; omega, fun h => ?_⟩
          · rcases g7 with ⟨_, rfl, _⟩ | ⟨g8, _⟩
            · rfl
            · simp only at g8; omega
          · rcases g7 with ⟨g8, _⟩ | ⟨_, rfl, _⟩
            · simp only at g8; omega
            · exact ⟨rfl, (g5.facts ok).1⟩
      · rcases g3 with ⟨g4, _, _, g5, _⟩ | ⟨g4, _, g5, m, g6, g7⟩
        · exact ⟨_, _, g5, .inr rfl⟩
        · exact ⟨_, _, g6, .inl ⟨rfl, rfl⟩⟩
/-- What is told if some are closed, or opened. -/
theorem ChgR.told {G : Gr} (ok : OkG G) {c : List Bool} {ds : List Int} {p : Ses} {sh op : List Int} {z : Ses × List MsgP} (hp : G.isE p.pos) (hn : G.isN p.node) (hd : G.far c p.node ds) (ho : p.over = false) (h : ChgR G c p sh op z) :
    z.1.pos = p.pos ∧ z.1.node = p.node ∧ ((p.has = true → (∀ x ∈ p.way, x ∉ sh) → z = (p, [])) ∧ ((p.has = true → ∃ x ∈ p.way, x ∈ sh) → dsv ds p.pos < 0 → z.1.has = false ∧ z.2 = if p.has = true then [mNoRoute] else []) ∧
    ((p.has = true → ∃ x ∈ p.way, x ∈ sh) → (p.has = true ∨ op ≠ []) → 0 ≤ dsv ds p.pos → z.1.has = true ∧ (∃ m, z.2 = [mRoute z.1.way (dsv ds p.pos), m]) ∧ ∀ x ∈ z.1.way, G.isE x ∧ shutB c x = false)) := by
  unfold ChgR at h
  rw [if_neg (by rw [ho]; simp)] at h
  split at h
  · rename_i hh
    split at h
    · rename_i hm
      obtain ⟨h1, h2, h3⟩ := h.told ok hp hn hd
      refine ⟨h1, h2, fun _ hno => ?_, fun _ hlt => ?_, fun _ _ hge => ?_⟩
      · obtain ⟨x, hx, hx'⟩ := hm; exact absurd hx' (hno x hx)
      · rcases h3 with ⟨_, h4, _, h5, _⟩ | ⟨h4, _⟩
        · rw [if_pos hh]; exact ⟨h4, h5⟩
        · omega
      · rcases h3 with ⟨h4, _⟩ | ⟨_, h4, h5, m, h6, _⟩
        · omega
        · exact ⟨h4, ⟨m, h6⟩, (h5.facts ok).2.2.1⟩
    · rename_i hm
      subst h
      exact ⟨rfl, rfl, fun _ _ => rfl, fun he => absurd (he hh) hm, fun he => absurd (he hh) hm⟩
  · rename_i hh
    have hf : p.has = false := by simpa using hh
    split at h
    · rename_i he
      subst h
      refine ⟨rfl, rfl, fun h => absurd h hh, fun _ _ => ⟨hf, by rw [if_neg hh]⟩, fun _ h => ?_⟩
      rcases h with h | h
      · exact absurd h hh
      · exact absurd he h
    · obtain ⟨z', h, rfl⟩ := h
      obtain ⟨h1, h2, h3⟩ := h.told ok hp hn hd
      refine ⟨h1, h2, fun h => absurd h hh, fun _ hlt => ?_, fun _ _ hge => ?_⟩
      · rcases h3 with ⟨_, h4, _, h5, _⟩ | ⟨h4, _⟩
        · simp [h4, hf]
        · omega
      · rcases h3 with ⟨h4, _⟩ | ⟨_, h4, h5, m, h6, _⟩
        · omega
        · exact ⟨h4, ⟨m, by simp [h4, h6]⟩, (h5.facts ok).2.2.1⟩
end Go.Den

/-
  A driver's session: where there is a way, and where there is none. No program in sight.
-/
namespace Go.Den
open Go

theorem AskR.no {G : Gr} (ok : OkG G) {c : List Bool} {p : Ses} {z : Ses × List MsgP} (hn : G.isN p.node) (hno : ∀ d, ¬ G.gw c p.node p.pos d) (h : AskR G c p z) : z = ({ p with way := [], has := false }, [mNoRoute]) := by
  obtain ⟨l, w, f, r, hA, rfl⟩ := h
  cases hA with
  | no _ => unfold askW; rw [if_neg (by simp)]
  | near _ he h0 hl hs => exact absurd (ok.lway_gw h0 he hl hs) (hno _)
  | far _ he _ h1 _ _ hl => exact absurd (ok.lway_gw h1 he hl fun x hx => ((hl.facts ok).2.2.1 x hx).2) (hno _)
theorem AskR.yes {G : Gr} (ok : OkG G) {c : List Bool} {ds l : List Int} {p : Ses} {z : Ses × List MsgP} (hp : G.isE p.pos) (hn : G.isN p.node) (hd : G.far c p.node ds) (hl : G.LWay c ds p.pos l) (h : AskR G c p z) :
    z.1.has = true ∧ z.1.way = l ∧ ∃ m, z.2 = [mRoute l (dsv ds p.pos), m] := by
  obtain ⟨_, _, h3⟩ := h.told ok hp hn hd
  rcases h3 with ⟨h4, _⟩ | ⟨_, h5, h6, m, h7, _⟩
  · cases hl with
    | nil h => omega
    | cons h _ _ => omega
  · have e := h6.uniq hl
    rw [e] at h7
    exact ⟨h5, e, m, h7⟩
theorem AskR.pos {G : Gr} {c : List Bool} {p : Ses} {z : Ses × List MsgP} (h : AskR G c p z) : z.1.pos = p.pos ∧ z.1.node = p.node := by
  obtain ⟨l, w, f, r, _, rfl⟩ := h
  have := askW_pos G p l w f
  exact ⟨this.1, this.2.1⟩
theorem ChgR.pos {G : Gr} {c : List Bool} {p : Ses} {sh op : List Int} {z : Ses × List MsgP} (h : ChgR G c p sh op z) : z.1.pos = p.pos ∧ z.1.node = p.node := by
  unfold ChgR at h
  by_cases h1 : p.over = true
  · rw [if_pos h1] at h; rw [h]; exact ⟨rfl, rfl⟩
  · rw [if_neg h1] at h
    by_cases h2 : p.has = true
    · rw [if_pos h2] at h
      by_cases h3 : ∃ e ∈ p.way, e ∈ sh
      · rw [if_pos h3] at h; exact h.pos
      · rw [if_neg h3] at h; rw [h]; exact ⟨rfl, rfl⟩
    · rw [if_neg h2] at h
      by_cases h3 : op = []
      · rw [if_pos h3] at h; rw [h]; exact ⟨rfl, rfl⟩
      · rw [if_neg h3] at h
        obtain ⟨z', hz, rfl⟩ := h
        exact hz.pos
theorem ChgR.no {G : Gr} (ok : OkG G) {c : List Bool} {p : Ses} {sh op : List Int} {z : Ses × List MsgP} (hn : G.isN p.node) (hno : ∀ d, ¬ G.gw c p.node p.pos d) (ho : p.over = false) (h : ChgR G c p sh op z) (hm : p.has = true → ∃ x ∈ p.way, x ∈ sh) :
    z.1.has = false ∧ z.2 = if p.has = true then [mNoRoute] else [] := by
  unfold ChgR at h
  rw [if_neg (by rw [ho]; simp)] at h
  by_cases h2 : p.has = true
  · rw [if_pos h2, if_pos (hm h2)] at h
    rw [h.no ok hn hno, if_pos h2]; exact ⟨rfl, rfl⟩
  · have hf : p.has = false := by simpa using h2
    rw [if_neg h2] at h
    rw [if_neg h2]
    by_cases h3 : op = []
    · rw [if_pos h3] at h; rw [h]; exact ⟨hf, rfl⟩
    · rw [if_neg h3] at h
      obtain ⟨z', hz, rfl⟩ := h
      rw [hz.no ok hn hno]; exact ⟨rfl, rfl⟩
end Go.Den
