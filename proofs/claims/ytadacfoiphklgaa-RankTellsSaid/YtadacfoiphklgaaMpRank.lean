/-
  Shortcuts, worth, and who goes first. No program in sight.
-/
import Derived.Test.YtadacfoiphklgaaMpWit
namespace Go.Den
open Go

/-- Whether two arcs over a number need a shortcut. -/
def needB (n : Nat) (L : List Arc) (v : Int) (a b : Arc) : Bool := !decide (a.f = b.t) && !witB n L a.f b.t v (a.w + b.w) 30
def shortP (n : Nat) (L : List Arc) (v : Int) (a : Arc) (bs : List Arc) : List Arc := (bs.filter (needB n L v a)).map fun b => ⟨a.f, b.t, a.w + b.w, v⟩
def shortL (n : Nat) (L : List Arc) (v : Int) : List Arc := (inL L v).flatMap fun a => shortP n L v a (outL L v)
def worthL (n : Nat) (L : List Arc) (v : Int) : Int := (shortL n L v).length - (inL L v).length - (outL L v).length
def isGone (gs : List Bool) (v : Nat) : Bool := gs.getD v false
def firstStep (n : Nat) (L : List Arc) (gs : List Bool) (z : Int × Int) (v : Nat) : Int × Int :=
  if isGone gs v then z else if z.1 < 0 then ((v : Int), worthL n L v) else if worthL n L v < z.2 then ((v : Int), worthL n L v) else z
def firstUpto (n : Nat) (L : List Arc) (gs : List Bool) (k : Nat) : Int × Int := (List.range k).foldl (firstStep n L gs) (-1, 0)
def firstL (n : Nat) (L : List Arc) (gs : List Bool) : Int := (firstUpto n L gs n).1
theorem firstUpto_succ (n : Nat) (L : List Arc) (gs : List Bool) (k : Nat) : firstUpto n L gs (k + 1) = firstStep n L gs (firstUpto n L gs k) k := by
  unfold firstUpto; rw [List.range_succ, List.foldl_append]; rfl

theorem shortP_snoc (n : Nat) (L : List Arc) (v : Int) (a : Arc) (bs : List Arc) (b : Arc) : shortP n L v a (bs ++ [b]) = shortP n L v a bs ++ (if needB n L v a b then [⟨a.f, b.t, a.w + b.w, v⟩] else []) := by
  unfold shortP
  rw [List.filter_append, List.map_append]
  congr 1
  simp only [List.filter_cons, List.filter_nil]
  split <;> simp
theorem shortP_len (n : Nat) (L : List Arc) (v : Int) (a : Arc) (bs : List Arc) : (shortP n L v a bs).length ≤ bs.length := by
  unfold shortP; rw [List.length_map]; exact List.length_filter_le _ _
theorem short_len (n : Nat) (L : List Arc) (v : Int) (as_ : List Arc) : (as_.flatMap fun a => shortP n L v a (outL L v)).length ≤ as_.length * (outL L v).length := by
  induction as_ with
  | nil => simp
  | cons a r ih =>
    have := shortP_len n L v a (outL L v)
    simp only [List.flatMap_cons, List.length_append, List.length_cons]
    rw [Nat.add_mul]; omega
theorem mem_short {n : Nat} {L : List Arc} {v : Int} {x : Arc} : x ∈ shortL n L v ↔ ∃ a ∈ inL L v, ∃ b ∈ outL L v, needB n L v a b = true ∧ x = ⟨a.f, b.t, a.w + b.w, v⟩ := by
  unfold shortL
  rw [List.mem_flatMap]
  constructor
  · rintro ⟨a, ha, hx⟩
    unfold shortP at hx
    obtain ⟨b, hb, rfl⟩ := List.mem_map.1 hx
    obtain ⟨h1, h2⟩ := List.mem_filter.1 hb
    exact ⟨a, ha, b, h1, h2, rfl⟩
  · rintro ⟨a, ha, b, hb, h, rfl⟩
    refine ⟨a, ha, ?_⟩
    unfold shortP
    exact List.mem_map.2 ⟨b, List.mem_filter.2 ⟨hb, h⟩, rfl⟩
theorem short_bnd {n : Nat} {L : List Arc} (hL : OkL n L) (hn : n ≤ 512) (v : Int) : (shortL n L v).length ≤ 262144 := by
  have h1 := short_len n L v (inL L v)
  have h2 := hL.in_len v
  have h3 := hL.out_len v
  have : (inL L v).length * (outL L v).length ≤ 512 * 512 := Nat.mul_le_mul (by omega) (by omega)
  unfold shortL; omega
theorem worth_bnd {n : Nat} {L : List Arc} (hL : OkL n L) (hn : n ≤ 512) (v : Int) : -2000 < worthL n L v ∧ worthL n L v < 300000 := by
  have h1 := short_bnd hL hn v
  have h2 := hL.in_len v
  have h3 := hL.out_len v
  unfold worthL; omega

/-- Who goes first has the least worth, and is the least of those. -/
structure FirstOk (n : Nat) (L : List Arc) (gs : List Bool) (k : Nat) (z : Int × Int) : Prop where
  none : z.1 < 0 → z.1 = -1 ∧ ∀ v, v < k → isGone gs v = true
  some : 0 ≤ z.1 → z.1 < k ∧ isGone gs z.1.toNat = false ∧ z.2 = worthL n L z.1 ∧ ∀ v, v < k → isGone gs v = false → z.2 ≤ worthL n L v ∧ (worthL n L v = z.2 → z.1 ≤ v)
theorem first_ok (n : Nat) (L : List Arc) (gs : List Bool) : ∀ k, FirstOk n L gs k (firstUpto n L gs k)
  | 0 => ⟨fun _ => ⟨rfl, fun v hv => by omega⟩, fun h => absurd h (by show ¬ ((0 : Int) ≤ -1); decide)⟩
  | k + 1 => by
    have ih := first_ok n L gs k
    rw [firstUpto_succ]
    generalize firstUpto n L gs k = z at *
    unfold firstStep
    by_cases hg : isGone gs k = true
    · rw [if_pos hg]
      refine ⟨fun h => ⟨(ih.none h).1, fun v hv => ?_⟩, fun h => ?_⟩
      · by_cases e : v = k
        · rw [e]; exact hg
        · exact (ih.none h).2 v (by omega)
      · obtain ⟨h1, h2, h3, h4⟩ := ih.some h
        refine ⟨by omega, h2, h3, fun v hv hgv => ?_⟩
        by_cases e : v = k
        · rw [e, hg] at hgv; cases hgv
        · exact h4 v (by omega) hgv
    · rw [if_neg hg]
      have hg' : isGone gs k = false := by simpa using hg
      by_cases h0 : z.1 < 0
      · rw [if_pos h0]
        refine ⟨fun h => by simp only at h; omega, fun _ => ⟨by simp only; omega, by simpa using hg', rfl, fun v hv hgv => ?_⟩⟩
        by_cases e : v = k
        · subst e; exact ⟨Int.le_refl _, fun _ => Int.le_refl _⟩
        · rw [(ih.none h0).2 v (by omega)] at hgv; cases hgv
      · rw [if_neg h0]
        obtain ⟨h1, h2, h3, h4⟩ := ih.some (by omega)
        by_cases hw : worthL n L k < z.2
        · rw [if_pos hw]
          refine ⟨fun h => by simp only at h; omega, fun _ => ⟨by simp only; omega, by simpa using hg', rfl, fun v hv hgv => ?_⟩⟩
          by_cases e : v = k
          · subst e; exact ⟨Int.le_refl _, fun _ => Int.le_refl _⟩
          · have := (h4 v (by omega) hgv).1
            simp only
            exact ⟨by omega, fun e' => by omega⟩
        · rw [if_neg hw]
          refine ⟨fun h => absurd h h0, fun _ => ⟨by omega, h2, h3, fun v hv hgv => ?_⟩⟩
          by_cases e : v = k
          · subst e; exact ⟨by omega, fun _ => by omega⟩
          · exact h4 v (by omega) hgv

/-! ### With a number cut, and its shortcuts put -/

theorem find_le {l : List Arc} {f t : Int} {x : Arc} (hs : LSrt l) (hx : x ∈ l) (hf : x.f = f) (ht : x.t = t) : findL l f t = some x := by subst hf; subst ht; exact findL_eq hs hx
/-- A net has of each two numbers an arc no heavier than what was put. -/
theorem put_light {m : Nat} {l : List Arc} (h : OkL m l) {a : Arc} (ha : mayA m a) : (∃ y ∈ (putL m l a).1, y.f = a.f ∧ y.t = a.t ∧ y.w ≤ a.w) ∧ ∀ x ∈ l, ∃ y ∈ (putL m l a).1, y.f = x.f ∧ y.t = x.t ∧ y.w ≤ x.w := by
  unfold putL
  rw [if_pos ha]
  have ins : (∃ y ∈ insL l a, y.f = a.f ∧ y.t = a.t ∧ y.w ≤ a.w) := ⟨a, mem_insL.2 (.inl rfl), rfl, rfl, Int.le_refl _⟩
  have old : ∀ x ∈ l, ¬ (x.f = a.f ∧ x.t = a.t) → ∃ y ∈ insL l a, y.f = x.f ∧ y.t = x.t ∧ y.w ≤ x.w := fun x hx hn => ⟨x, mem_insL.2 (.inr ⟨hx, hn⟩), rfl, rfl, Int.le_refl _⟩
  cases hf : findL l a.f a.t with
  | none => exact ⟨ins, fun x hx => old x hx (findL_none hf x hx)⟩
  | some z =>
    obtain ⟨hz, z1, z2⟩ := findL_some hf
    simp only
    split
    · exact ⟨⟨z, hz, z1, z2, by assumption⟩, fun x hx => ⟨x, hx, rfl, rfl, Int.le_refl _⟩⟩
    · refine ⟨ins, fun x hx => ?_⟩
      by_cases e : x.f = a.f ∧ x.t = a.t
      · have : x = z := by have := find_le h.srt hx e.1 e.2; rw [hf] at this; exact (Option.some.inj this).symm
        subst this
        exact ⟨a, mem_insL.2 (.inl rfl), e.1.symm, e.2.symm, by omega⟩
      · exact old x hx e
theorem putAll_light {m : Nat} : ∀ (xs : List Arc) {l : List Arc}, OkL m l → (∀ a ∈ xs, mayA m a) → ∀ x, x ∈ l ∨ x ∈ xs → ∃ y ∈ putAll m l xs, y.f = x.f ∧ y.t = x.t ∧ y.w ≤ x.w
  | [], l, h, _, x, hx => by
    rcases hx with hx | hx
    · exact ⟨x, hx, rfl, rfl, Int.le_refl _⟩
    · cases hx
  | a :: xs, l, h, hm, x, hx => by
    have hp := put_light h (hm a (by simp))
    have ih := putAll_light xs (putL_ok h a) fun b hb => hm b (by simp [hb])
    have step : (∃ y ∈ (putL m l a).1, y.f = x.f ∧ y.t = x.t ∧ y.w ≤ x.w) ∨ x ∈ xs := by
      rcases hx with hx | hx
      · exact .inl (hp.2 x hx)
      · rcases List.mem_cons.1 hx with rfl | hx
        · exact .inl hp.1
        · exact .inr hx
    rcases step with ⟨y, hy, e1, e2, e3⟩ | hx
    · obtain ⟨z, hz, e4, e5, e6⟩ := ih y (.inl hy)
      exact ⟨z, hz, e4.trans e1, e5.trans e2, Int.le_trans e6 e3⟩
    · exact ih x (.inr hx)
theorem put_sub {m : Nat} {l : List Arc} {a x : Arc} (h : x ∈ (putL m l a).1) : x ∈ l ∨ x = a := by
  unfold putL at h
  split at h
  · split at h
    · split at h
      · exact .inl h
      · rcases mem_insL.1 h with rfl | ⟨h, _⟩
        · exact .inr rfl
        · exact .inl h
    · rcases mem_insL.1 h with rfl | ⟨h, _⟩
      · exact .inr rfl
      · exact .inl h
  · exact .inl h
theorem putAll_sub {m : Nat} : ∀ (xs : List Arc) {l : List Arc} {x : Arc}, x ∈ putAll m l xs → x ∈ l ∨ x ∈ xs
  | [], _, _, h => .inl h
  | a :: xs, l, x, h => by
    rcases putAll_sub xs (l := (putL m l a).1) h with h | h
    · rcases put_sub h with h | rfl
      · exact .inl h
      · exact .inr (by simp)
    · exact .inr (by simp [h])

section
variable {n : Nat} {L : List Arc} (hL : OkL n L) {v : Int} (hw : ∀ e ∈ L, e.w ≤ 549755813888)
include hL hw
theorem short_may (hv0 : 0 ≤ v) (hv1 : v < n) : ∀ x ∈ shortL n L v, mayA n x ∧ x.m = v ∧ x.f ≠ v ∧ x.t ≠ v := by
  intro x hx
  obtain ⟨a, ha, b, hb, hn, rfl⟩ := mem_short.1 hx
  obtain ⟨ha, hat⟩ := mem_inL.1 ha
  obtain ⟨hb, hbf⟩ := mem_outL.1 hb
  obtain ⟨a0, a1, a2, a3, a4, a5, a6, _⟩ := hL.may a ha
  obtain ⟨b0, b1, b2, b3, b4, b5, b6, _⟩ := hL.may b hb
  have hne : a.f ≠ b.t := by unfold needB at hn; simp at hn; exact hn.1
  have h1 := hw a ha
  have h2 := hw b hb
  have e1 : a.f ≠ v := by omega
  have e2 : b.t ≠ v := by omega
  exact ⟨⟨a0, a1, b2, b3, hne, by show 1 ≤ a.w + b.w; omega, by show a.w + b.w ≤ _; omega, .inr ⟨hv0, hv1, fun e => e1 e.symm, fun e => e2 e.symm⟩⟩, rfl, e1, e2⟩
/-- All that are left are as far from each other as before. -/
theorem keeps_to (hv0 : 0 ≤ v) (hv1 : v < n) {a b d : Int} (ha : a ≠ v) (h : Walk L (-1) a b d) :
    (b ≠ v → ∃ d', d' ≤ d ∧ Walk (putAll n (cutL L v) (shortL n L v)) (-1) a b d') ∧ (b = v → ∃ e ∈ inL L v, ∃ d', Walk (putAll n (cutL L v) (shortL n L v)) (-1) a e.f d' ∧ d' + e.w ≤ d) := by
  have hmay := short_may hL hw hv0 hv1
  have hO : OkL n (putAll n (cutL L v) (shortL n L v)) := putAll_ok _ (hL.cut v)
  have light := putAll_light (shortL n L v) (hL.cut v) fun x hx => (hmay x hx).1
  generalize putAll n (cutL L v) (shortL n L v) = O at *
  have arc : ∀ x, x ∈ cutL L v ∨ x ∈ shortL n L v → ∀ d, Walk O (-1) a x.f d → ∃ d', d' ≤ d + x.w ∧ Walk O (-1) a x.t d' := fun x hx d hd => by
    obtain ⟨y, hy, e1, e2, e3⟩ := light x hx
    have := Walk.snoc y hd hy e1 (by have := (hO.may y hy).2.2.1; omega)
    rw [e2] at this
    exact ⟨d + y.w, by omega, this⟩
  have along : ∀ {p q d2 : Int}, Walk (cutL L v) (-1) p q d2 → ∀ d1, Walk O (-1) a p d1 → ∃ d', d' ≤ d1 + d2 ∧ Walk O (-1) a q d' := by
    intro p q d2 hpq
    induction hpq with
    | nil => intro d1 h1; exact ⟨d1, by omega, h1⟩
    | snoc e _ he hf _ ih =>
      intro d1 h1
      obtain ⟨d', hd', hw'⟩ := ih d1 h1
      rw [← hf] at hw'
      obtain ⟨d'', h2, h3⟩ := arc e (.inl he) d' hw'
      exact ⟨d'', by omega, h3⟩
  induction h with
  | nil => exact ⟨fun _ => ⟨0, Int.le_refl _, .nil⟩, fun e => absurd e ha⟩
  | @snoc x d e h he hf ht ih =>
    have heft := (hL.may e he).2.2.2.2.1
    refine ⟨fun hbv => ?_, fun hbv => ?_⟩
    · by_cases hfv : e.f = v
      · -- over the number itself
        obtain ⟨e1, he1, d1, hw1, hd1⟩ := ih.2 (hf.symm.trans hfv)
        obtain ⟨he1L, he1t⟩ := mem_inL.1 he1
        by_cases hsame : e1.f = e.t
        · rw [hsame] at hw1
          have := (hL.may e he).2.2.2.2.2.1
          have := (hL.may e1 he1L).2.2.2.2.2.1
          exact ⟨d1, by omega, hw1⟩
        · have hout : e ∈ outL L v := mem_outL.2 ⟨he, hfv⟩
          obtain ⟨b0, b1, b2, b3, _⟩ := hL.may e he
          obtain ⟨c0, c1, c2, c3, c4, _⟩ := hL.may e1 he1L
          cases hwit : witB n L e1.f e.t v (e1.w + e.w) 30 with
          | true =>
            obtain ⟨d2, hd2, hw2, _⟩ := wit_walk hL ⟨c0, c1⟩ ⟨b2, b3⟩ hwit
            have hw3 := (walk_cut hL (by omega)).2 hw2
            obtain ⟨d', h1, h2⟩ := along hw3 d1 hw1
            exact ⟨d', by omega, h2⟩
          | false =>
            have hneed : needB n L v e1 e = true := by unfold needB; rw [hwit]; simp [hsame]
            obtain ⟨d', h1, h2⟩ := arc ⟨e1.f, e.t, e1.w + e.w, v⟩ (.inr (mem_short.2 ⟨e1, he1, e, hout, hneed, rfl⟩)) d1 hw1
            refine ⟨d', ?_, h2⟩
            have : d' ≤ d1 + (e1.w + e.w) := h1
            omega
      · obtain ⟨d1, hd1, hw1⟩ := ih.1 (fun e' => hfv (hf.trans e'))
        rw [← hf] at hw1
        obtain ⟨d', h1, h2⟩ := arc e (.inl (mem_cutL.2 ⟨he, hfv, hbv⟩)) d1 hw1
        exact ⟨d', by omega, h2⟩
    · have hfv : e.f ≠ v := by omega
      obtain ⟨d1, hd1, hw1⟩ := ih.1 (fun e' => hfv (hf.trans e'))
      rw [← hf] at hw1
      exact ⟨e, mem_inL.2 ⟨he, hbv⟩, d1, hw1, by omega⟩
omit hw in
theorem keeps_back {a b d : Int} (h : Walk (putAll n (cutL L v) (shortL n L v)) (-1) a b d) : Walk L (-1) a b d := by
  induction h with
  | nil => exact .nil
  | snoc e _ he hf _ ih =>
    rcases putAll_sub _ he with h | h
    · obtain ⟨hc, _, _⟩ := mem_cutL.1 h
      exact .snoc e ih hc hf (by have := (hL.may e hc).2.2.1; omega)
    · obtain ⟨x, hx, y, hy, _, rfl⟩ := mem_short.1 h
      obtain ⟨hx, hxt⟩ := mem_inL.1 hx
      obtain ⟨hy, hyf⟩ := mem_outL.1 hy
      have h1 := Walk.snoc x ih hx hf (by have := (hL.may x hx).2.2.1; omega)
      have h2 := Walk.snoc y h1 hy (hyf.trans hxt.symm) (by have := (hL.may y hy).2.2.1; omega)
      rw [Int.add_assoc] at h2
      exact h2
theorem keeps_dist (hv0 : 0 ≤ v) (hv1 : v < n) {a b x y : Int} (ha : a ≠ v) (hb : b ≠ v) (hx : DistIs L a b x) (hy : DistIs (putAll n (cutL L v) (shortL n L v)) a b y) : x = y := by
  have t1 : ∀ d, Walk L (-1) a b d → ∃ d', d' ≤ d ∧ Walk (putAll n (cutL L v) (shortL n L v)) (-1) a b d' := fun d hd => (keeps_to hL hw hv0 hv1 ha hd).1 hb
  have t2 : ∀ d, Walk (putAll n (cutL L v) (shortL n L v)) (-1) a b d → Walk L (-1) a b d := fun d hd => keeps_back hL hd
  rcases hx with ⟨hx, h1⟩ | ⟨hx, h1, h2⟩ <;> rcases hy with ⟨hy, h3⟩ | ⟨hy, h3, h4⟩
  · rw [hx, hy]
  · exact absurd (t2 _ h3) (h1 _)
  · obtain ⟨d', _, hd⟩ := t1 _ h1
    exact absurd hd (h3 _)
  · obtain ⟨d', hle, hd⟩ := t1 _ h1
    have := h4 _ hd
    have := h2 _ (t2 _ h3)
    omega
end
/-- What stands behind a place of the shortcuts' row. -/
theorem short_split (n : Nat) (L : List Arc) (v : Int) {i j : Nat} (hi : i < (inL L v).length) (hj : j < (outL L v).length) :
    shortL n L v = ((inL L v).take i).flatMap (fun a => shortP n L v a (outL L v)) ++ (shortP n L v (inL L v)[i] ((outL L v).take j) ++ ((if needB n L v (inL L v)[i] (outL L v)[j] then [⟨(inL L v)[i].f, (outL L v)[j].t, (inL L v)[i].w + (outL L v)[j].w, v⟩] else []) ++
      (shortP n L v (inL L v)[i] ((outL L v).drop (j + 1)) ++ ((inL L v).drop (i + 1)).flatMap (fun a => shortP n L v a (outL L v))))) := by
  have e1 : inL L v = (inL L v).take i ++ (inL L v)[i] :: (inL L v).drop (i + 1) := by
    rw [← List.drop_eq_getElem_cons hi, List.take_append_drop]
  have e2 : outL L v = (outL L v).take j ++ ([(outL L v)[j]] ++ (outL L v).drop (j + 1)) := by
    rw [List.singleton_append, ← List.drop_eq_getElem_cons hj, List.take_append_drop]
  have e3 : shortP n L v (inL L v)[i] (outL L v) = shortP n L v (inL L v)[i] ((outL L v).take j) ++ ((if needB n L v (inL L v)[i] (outL L v)[j] then [⟨(inL L v)[i].f, (outL L v)[j].t, (inL L v)[i].w + (outL L v)[j].w, v⟩] else []) ++ shortP n L v (inL L v)[i] ((outL L v).drop (j + 1))) := by
    conv => lhs; rw [e2]
    unfold shortP
    rw [List.filter_append, List.filter_append, List.map_append, List.map_append]
    congr 2
    simp only [List.filter_cons, List.filter_nil]
    split <;> simp
  conv => lhs; unfold shortL; rw [e1]
  rw [List.flatMap_append, List.flatMap_cons]
  simp only [e3, List.append_assoc]
/-- The next shortcut stands for no arcs that need none. -/
theorem short_other {n : Nat} {L : List Arc} (hL : LSrt L) {v : Int} {i j : Nat} (hi : i < (inL L v).length) (hj : j < (outL L v).length) {x : Arc}
    (hx : x ∈ shortP n L v (inL L v)[i] ((outL L v).drop (j + 1)) ++ ((inL L v).drop (i + 1)).flatMap (fun a => shortP n L v a (outL L v))) : ¬ (x.f = (inL L v)[i].f ∧ x.t = (outL L v)[j].t) := by
  rintro ⟨h1, h2⟩
  rcases List.mem_append.1 hx with hx | hx
  · unfold shortP at hx
    obtain ⟨b, hb, rfl⟩ := List.mem_map.1 hx
    obtain ⟨q, hq⟩ := List.mem_iff_getElem?.1 (List.mem_filter.1 hb).1
    rw [List.getElem?_drop] at hq
    have := (hL.out v).get (p := j) (q := j + 1 + q) (by omega) (List.getElem?_eq_getElem hj) hq
    have h2' : b.t = (outL L v)[j].t := h2
    omega
  · obtain ⟨a, ha, hx⟩ := List.mem_flatMap.1 hx
    unfold shortP at hx
    obtain ⟨b, _, rfl⟩ := List.mem_map.1 hx
    obtain ⟨q, hq⟩ := List.mem_iff_getElem?.1 ha
    rw [List.getElem?_drop] at hq
    have := (hL.inn v).get (p := i) (q := i + 1 + q) (by omega) (List.getElem?_eq_getElem hi) hq
    have h1' : a.f = (inL L v)[i].f := h1
    omega
end Go.Den
