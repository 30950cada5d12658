/-
  Distances by lowering them again and again, as the document does; rows of arcs. No program in sight.
-/
import Derived.Test.YtadacfoiphklgaaMpSeek
namespace Go.Den
open Go

theorem Walk.mono {L M : List Arc} {c c' a v d : Int} (hs : ∀ e ∈ L, e.t ≠ c → e ∈ M ∧ e.t ≠ c') (h : Walk L c a v d) : Walk M c' a v d := by
  induction h with
  | nil => exact .nil
  | snoc e _ he hf ht ih => exact .snoc e ih (hs e he ht).1 hf (hs e he ht).2
theorem Walk.trans {L : List Arc} {c a v w d d' : Int} (h : Walk L c a v d) (h' : Walk L c v w d') : Walk L c a w (d + d') := by
  induction h' with
  | nil => rw [Int.add_zero]; exact h
  | snoc e _ he hf ht ih => rw [← Int.add_assoc]; exact .snoc e ih he hf ht
theorem Walk.ends {L : List Arc} {c a v d : Int} (h : Walk L c a v d) : v = a ∨ v ≠ c := by
  cases h with
  | nil => exact .inl rfl
  | snoc e _ _ _ ht => exact .inr ht
/-- Without a number is as with all its arcs cut. -/
theorem walk_cut {m : Nat} {L : List Arc} (hL : OkL m L) {c a v d : Int} (hac : a ≠ c) : Walk (cutL L c) (-1) a v d ↔ Walk L c a v d := by
  constructor
  · refine Walk.mono fun e he _ => ?_
    have := mem_cutL.1 he
    exact ⟨this.1, this.2.2⟩
  · intro h
    induction h with
    | nil => exact .nil
    | snoc e h he hf ht ih =>
      have hfc : e.f ≠ c := by rw [hf]; rcases h.ends with rfl | h <;> assumption
      exact .snoc e ih (mem_cutL.2 ⟨he, hfc, ht⟩) hf (by have := (hL.may e he).2.2.1; omega)
theorem Walk.pos {m : Nat} {L : List Arc} (hL : OkL m L) {c a v d : Int} (h : Walk L c a v d) : 0 ≤ d := by
  induction h with
  | nil => exact Int.le_refl _
  | snoc e _ he _ _ ih => have := (hL.may e he).2.2.2.2.2.1; omega

/-- How far a number is; -1: there is no way. -/
def DistIs (L : List Arc) (a v d : Int) : Prop := (d = -1 ∧ ∀ k, ¬ Walk L (-1) a v k) ∨ (0 ≤ d ∧ Walk L (-1) a v d ∧ ∀ k, Walk L (-1) a v k → d ≤ k)

/-- How many are met. -/
def met (ds : List Int) : Nat := (ds.filter fun d => decide (0 ≤ d)).length
def bulk (d : Int) : Nat := if d < 0 then 1152921504606846976 else d.toNat
def total (ds : List Int) : Nat := (ds.map bulk).sum
theorem met_le (ds : List Int) : met ds ≤ ds.length := List.length_filter_le _ _
theorem met_set : ∀ {ds : List Int} {i : Nat} {x d : Int}, ds[i]? = some x → 0 ≤ d → met (ds.set i d) = met ds + (if x < 0 then 1 else 0)
  | [], i, x, d, h, _ => by simp at h
  | y :: ds, 0, x, d, h, hd => by
    simp at h; subst h
    simp only [List.set_cons_zero, met, List.filter_cons]
    by_cases h0 : y < 0
    · have e1 : decide (0 ≤ y) = false := by simp; omega
      have e2 : decide (0 ≤ d) = true := by simpa using hd
      rw [e1, e2, if_pos h0]; simp
    · have e1 : decide (0 ≤ y) = true := by simp; omega
      have e2 : decide (0 ≤ d) = true := by simpa using hd
      rw [e1, e2, if_neg h0]; simp
  | y :: ds, i + 1, x, d, h, hd => by
    simp at h
    have ih := met_set (i := i) h hd
    simp only [List.set_cons_succ, met, List.filter_cons]
    simp only [met] at ih
    split
    · simp only [List.length_cons, ih]; omega
    · exact ih
theorem total_set : ∀ {ds : List Int} {i : Nat} {x d : Int}, ds[i]? = some x → total (ds.set i d) + bulk x = total ds + bulk d
  | [], i, x, d, h => by simp at h
  | y :: ds, 0, x, d, h => by simp at h; subst h; simp [total]; omega
  | y :: ds, i + 1, x, d, h => by
    simp at h
    have ih := total_set (i := i) (d := d) h
    simp only [List.set_cons_succ, total, List.map_cons, List.sum_cons] at ih ⊢
    omega

structure BF (m : Nat) (L : List Arc) (a : Int) (ds : List Int) : Prop where
  len : ds.length = m
  src : ds[a.toNat]? = some 0
  walk : ∀ (v : Nat) (d : Int), ds[v]? = some d → d = -1 ∨ (0 ≤ d ∧ Walk L (-1) a (v : Int) d ∧ d ≤ met ds * 1099511627776)
theorem BF.start {m : Nat} {L : List Arc} {a : Int} (h0 : 0 ≤ a) (h1 : a < m) : BF m L a ((List.replicate m (-1)).set a.toNat 0) := by
  refine ⟨by simp, by rw [List.getElem?_set]; simp; omega, fun v d hd => ?_⟩
  rw [List.getElem?_set] at hd
  by_cases hv : a.toNat = v
  · rw [if_pos hv] at hd
    split at hd
    · cases hd
      have : ((v : Nat) : Int) = a := by omega
      rw [this]
      exact .inr ⟨Int.le_refl _, .nil, by omega⟩
    · cases hd
  · rw [if_neg hv, List.getElem?_replicate] at hd
    split at hd
    · cases hd; exact .inl rfl
    · cases hd
/-- One arc lowers what it goes to. -/
theorem BF.lower {m : Nat} {L : List Arc} {a : Int} {ds : List Int} (h : BF m L a ds) (hL : OkL m L) (hm : m ≤ 512) {e : Arc} (he : e ∈ L) {x y : Int} (hx : ds[e.f.toNat]? = some x) (hy : ds[e.t.toNat]? = some y) (hx0 : 0 ≤ x) (hlt : y < 0 ∨ x + e.w < y) :
    BF m L a (ds.set e.t.toNat (x + e.w)) ∧ total (ds.set e.t.toNat (x + e.w)) < total ds := by
  obtain ⟨m1, m2, m3, m4, _, m5, m6, _⟩ := hL.may e he
  have hmet := met_set (d := x + e.w) hy (by omega)
  have hml : met ds ≤ m := h.len ▸ met_le ds
  have hxw := h.walk _ _ hx
  rcases hxw with hxw | ⟨_, hxw, hxb⟩
  · omega
  have htl : e.t.toNat < ds.length := by have := h.len; omega
  have ef : ((e.f.toNat : Nat) : Int) = e.f := by omega
  have et : ((e.t.toNat : Nat) : Int) = e.t := by omega
  rw [ef] at hxw
  have hw : Walk L (-1) a e.t (x + e.w) := .snoc e hxw he rfl (by omega)
  have hnew : x + e.w ≤ met (ds.set e.t.toNat (x + e.w)) * 1099511627776 := by
    rw [hmet]
    rcases hlt with hlt | hlt
    · rw [if_pos hlt]; omega
    · rcases h.walk _ _ hy with hy' | ⟨_, _, hy'⟩
      · rw [hy', if_pos (by omega)]; omega
      · split <;> omega
  refine ⟨⟨by rw [List.length_set]; exact h.len, ?_, fun v d hd => ?_⟩, ?_⟩
  · rw [List.getElem?_set]
    by_cases hat : e.t.toNat = a.toNat
    · have hy0 : y = 0 := by rw [hat, h.src] at hy; exact (Option.some.inj hy).symm
      omega
    · rw [if_neg hat]; exact h.src
  · rw [List.getElem?_set] at hd
    by_cases hv : e.t.toNat = v
    · rw [if_pos hv, if_pos htl] at hd
      cases hd
      subst hv
      rw [et]
      exact .inr ⟨by omega, hw, hnew⟩
    · rw [if_neg hv] at hd
      rcases h.walk v d hd with h1 | ⟨h1, h2, h3⟩
      · exact .inl h1
      · refine .inr ⟨h1, h2, ?_⟩
        rw [hmet]; split <;> omega
  · have ht := total_set (d := x + e.w) hy
    have hb : bulk (x + e.w) < bulk y := by
      unfold bulk
      rw [if_neg (by omega)]
      split <;> omega
    omega
/-- Where no arc lowers anything, all are distances. -/
theorem BF.dist {m : Nat} {L : List Arc} {a : Int} {ds : List Int} (h : BF m L a ds) (hL : OkL m L) (ha : 0 ≤ a)
    (hfix : ∀ e ∈ L, ∀ x y, ds[e.f.toNat]? = some x → ds[e.t.toNat]? = some y → 0 ≤ x → 0 ≤ y ∧ y ≤ x + e.w) : ∀ (v : Nat) (d : Int), ds[v]? = some d → DistIs L a (v : Int) d := by
  have key : ∀ {v k : Int}, Walk L (-1) a v k → ∃ d, ds[v.toNat]? = some d ∧ 0 ≤ d ∧ d ≤ k := by
    intro v k hw
    induction hw with
    | nil => exact ⟨0, h.src, Int.le_refl _, Int.le_refl _⟩
    | snoc e _ he hf ht ih =>
      obtain ⟨x, hx, hx0, hxk⟩ := ih
      rw [← hf] at hx
      obtain ⟨m1, m2, m3, m4, _⟩ := hL.may e he
      have hlt : e.t.toNat < ds.length := by have := h.len; omega
      have hy := List.getElem?_eq_getElem hlt
      obtain ⟨h1, h2⟩ := hfix e he x _ hx hy hx0
      exact ⟨_, hy, h1, by omega⟩
  intro v d hd
  rcases h.walk v d hd with h1 | ⟨h1, h2, _⟩
  · refine .inl ⟨h1, fun k hk => ?_⟩
    obtain ⟨d', hd', h0, _⟩ := key hk
    rw [Int.toNat_natCast, hd] at hd'
    have := Option.some.inj hd'
    omega
  · refine .inr ⟨h1, h2, fun k hk => ?_⟩
    obtain ⟨d', hd', _, hk'⟩ := key hk
    rw [Int.toNat_natCast, hd] at hd'
    have := Option.some.inj hd'
    omega
end Go.Den
