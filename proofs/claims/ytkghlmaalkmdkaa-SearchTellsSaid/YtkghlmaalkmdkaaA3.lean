/-
  Distances by lowering them again and again, as the document does; rows of arcs. No program in sight.
-/
import Derived.Test.YtkghlmaalkmdkaaA2
namespace Go.Den
open Go

theorem Walk.mono {L M : List Arc} {c c' a v d : Int} (hs : ∀ e ∈ L, e.t ≠ c → e ∈ M ∧ e.t ≠ c') (h : Walk L c a v d) : Walk M c' a v d := by
  induction h with
  | nil => exact .nil
  | snoc e _ he hf ht ih => exact .snoc e ih (hs e he ht).1 hf (hs e he ht).2
theorem Walk.trans {L : List Arc} {c a v w d d' : Int} (h : Walk L c a v d) (h' : Walk L c v w d') : Walk L c a w (d + d') := by
  induction h' with
  | nil => rw [Int.add_zero]; exact h
  | snoc e _ he hf ht ih => rw [← Int.add_assoc]; exact .snoc e ih he hf ht
theorem Walk.ends {L : List Arc} {c a v d : Int} (h : Walk L c a v d) : v = a ∨ v ≠ c := by
  cases h with
  | nil => exact .inl rfl
  | snoc e _ _ _ ht => exact .inr ht
/-- Without a number is as with all its arcs cut. -/
theorem walk_cut {m : Nat} {L : List Arc} (hL : OkL m L) {c a v d : Int} (hac : a ≠ c) : Walk (cutL L c) (-1) a v d ↔ Walk L c a v d := by
  constructor
  · refine Walk.mono fun e he _ => ?_
    have := mem_cutL.1 he
    exact ⟨this.1, this.2.2⟩
  · intro h
    induction h with
    | nil => exact .nil
    | snoc e h he hf ht ih =>
      have hfc : e.f ≠ c := by rw [hf]; rcases h.ends with rfl | h <;> assumption
      exact .snoc e ih (mem_cutL.2 ⟨he, hfc, ht⟩) hf (by have := (hL.may e he).2.2.1; omega)
theorem Walk.pos {m : Nat} {L : List Arc} (hL : OkL m L) {c a v d : Int} (h : Walk L c a v d) : 0 ≤ d := by
  induction h with
  | nil => exact Int.le_refl _
  | snoc e _ he _ _ ih => have := (hL.may e he).2.2.2.2.2.1; omega

/-- How far a number is; -1: there is no way. -/
def DistIs (L : List Arc) (a v d : Int) : Prop := (d = -1 ∧ ∀ k, ¬ Walk L (-1) a v k) ∨ (0 ≤ d ∧ Walk L (-1) a v d ∧ ∀ k, Walk L (-1) a v k → d ≤ k)

/-- How many are met. -/
def met (ds : List Int) : Nat := (ds.filter fun d => decide (0 ≤ d)).length
def bulk (d : Int) : Nat := if d < 0 then 1152921504606846976 else d.toNat
def total (ds : List Int) : Nat := (ds.map bulk).sum
theorem met_le (ds : List Int) : met ds ≤ ds.length := List.length_filter_le _ _
theorem met_set : ∀ {ds : List Int} {i : Nat} {x d : Int}, ds[i]? = some x → 0 ≤ d → met (ds.set i d) = met ds + (if x < 0 then 1 else 0)
  | [], i, x, d, h, _ => by simp at h
  | y :: ds, 0, x, d, h, hd => by
    simp at h; subst h
    simp only [List.set_cons_zero, met, List.filter_cons]
    by_cases h0 : y < 0
    · have e1 : decide (0 ≤ y) = false := by simp; omega
      have e2 : decide (0 ≤ d) = true := by simpa using hd
      rw [e1, e2, if_pos h0]; simp
    · have e1 : decide (0 ≤ y) = true := by simp; omega
      have e2 : decide (0 ≤ d) = true := by simpa using hd
      rw [e1, e2, if_neg h0]; simp
  | y :: ds, i + 1, x, d, h, hd => by
    simp at h
    have ih := met_set (i := i) h hd
    simp only [List.set_cons_succ, met, List.filter_cons]
    simp only [met] at ih
    split
    · simp only [List.length_cons, ih]; omega
    · exact ih
theorem total_set : ∀ {ds : List Int} {i : Nat} {x d : Int}, ds[i]? = some x → total (ds.set i d) + bulk x = total ds + bulk d
  | [], i, x, d, h => by simp at h
  | y :: ds, 0, x, d, h => by simp at h; subst h; simp [total]; omega
  | y :: ds, i + 1, x, d, h => by
    simp at h
    have ih := total_set (i := i) (d := d) h
    simp only [List.set_cons_succ, total, List.map_cons, List.sum_cons] at ih ⊢
    omega

structure BF (m : Nat) (L : List Arc) (a : Int) (ds : List Int) : Prop where
  len : ds.length = m
  src : ds[a.toNat]? = some 0
  walk : ∀ (v : Nat) (d : Int), ds[v]? = some d → d = -1 ∨ (0 ≤ d ∧ Walk L (-1) a (v : Int) d ∧ d ≤ met ds * 1099511627776)
theorem BF.start {m : Nat} {L : List Arc} {a : Int} (h0 : 0 ≤ a) (h1 : a < m) : BF m L a ((List.replicate m (-1)).set a.toNat 0) := by
  refine ⟨by simp, by rw [List.getElem?_set]; simp; omega, fun v d hd => ?_⟩
  rw [List.getElem?_set] at hd
  by_cases hv : a.toNat = v
  · rw [if_pos hv] at hd
    split at hd
    · cases hd
      have : ((v : Nat) : Int) = a := by omega
      rw [this]
      exact .inr ⟨Int.le_refl _, .nil, by omega⟩
    · cases hd
  · rw [if_neg hv, List.getElem?_replicate] at hd
    split at hd
    · cases hd; exact .inl rfl
    · cases hd
/-- One arc lowers what it goes to. -/
theorem BF.lower {m : Nat} {L : List Arc} {a : Int} {ds : List Int} (h : BF m L a ds) (hL : OkL m L) (hm : m ≤ 512) {e : Arc} (he : e ∈ L) {x y : Int} (hx : ds[e.f.toNat]? = some x) (hy : ds[e.t.toNat]? = some y) (hx0 : 0 ≤ x) (hlt : y < 0 ∨ x + e.w < y) :
    BF m L a (ds.set e.t.toNat (x + e.w)) ∧ total (ds.set e.t.toNat (x + e.w)) < total ds := by
  obtain ⟨m1, m2, m3, m4, _, m5, m6, _⟩ := hL.may e he
  have hmet := met_set (d := x + e.w) hy (by omega)
  have hml : met ds ≤ m := h.len ▸ met_le ds
  have hxw := h.walk _ _ hx
  rcases hxw with hxw | ⟨_, hxw, hxb⟩
  · omega
  have htl : e.t.toNat < ds.length := by have := h.len; omega
  have ef : ((e.f.toNat : Nat) : Int) = e.f := by omega
  have et : ((e.t.toNat : Nat) : Int) = e.t := by omega
  rw [ef] at hxw
  have hw : Walk L (-1) a e.t (x + e.w) := .snoc e hxw he rfl (by omega)
  have hnew : x + e.w ≤ met (ds.set e.t.toNat (x + e.w)) * 1099511627776 := by
    rw [hmet]
    rcases hlt with hlt | hlt
    · rw [if_pos hlt]; omega
    · rcases h.walk _ _ hy with hy' | ⟨_, _, hy'⟩
      · rw [hy', if_pos (by omega)]; omega
      · split <;> omega
  refine ⟨⟨by rw [List.length_set]; exact h.len, ?_, fun v d hd => ?_⟩, ?_⟩
  · rw [List.getElem?_set]
    by_cases hat : e.t.toNat = a.toNat
    · have hy0 : y = 0 := by rw [hat, h.src] at hy; exact (Option.some.inj hy).symm
      omega
    · rw [if_neg hat]; exact h.src
  · rw [List.getElem?_set] at hd
    by_cases hv : e.t.toNat = v
    · rw [if_pos hv, if_pos htl] at hd
      cases hd
      subst hv
      rw [et]
      exact .inr ⟨by omega, hw, hnew⟩
    · rw [if_neg hv] at hd
      rcases h.walk v d hd with h1 | ⟨h1, h2, h3⟩
      · exact .inl h1
      · refine .inr ⟨h1, h2, ?_⟩
        rw [hmet]; split <;> omega
  · have ht := total_set (d := x + e.w) hy
    have hb : bulk (x + e.w) < bulk y := by
      unfold bulk
      rw [if_neg (by omega)]
      split <;> omega
    omega
/-- Where no arc lowers anything, all are distances. -/
theorem BF.dist {m : Nat} {L : List Arc} {a : Int} {ds : List Int} (h : BF m L a ds) (hL : OkL m L) (ha : 0 ≤ a)
    (hfix : ∀ e ∈ L, ∀ x y, ds[e.f.toNat]? = some x → ds[e.t.toNat]? = some y → 0 ≤ x → 0 ≤ y ∧ y ≤ x + e.w) : ∀ (v : Nat) (d : Int), ds[v]? = some d → DistIs L a (v : Int) d := by
  have key : ∀ {v k : Int}, Walk L (-1) a v k → ∃ d, ds[v.toNat]? = some d ∧ 0 ≤ d ∧ d ≤ k := by
    intro v k hw
    induction hw with
    | nil => exact ⟨0, h.src, Int.le_refl _, Int.le_refl _⟩
    | snoc e _ he hf ht ih =>
      obtain ⟨x, hx, hx0, hxk⟩ := ih
      rw [← hf] at hx
      obtain ⟨m1, m2, m3, m4, _⟩ := hL.may e he
      have hlt : e.t.toNat < ds.length := by have := h.len; omega
      have hy := List.getElem?_eq_getElem hlt
      obtain ⟨h1, h2⟩ := hfix e he x _ hx hy hx0
      exact ⟨_, hy, h1, by omega⟩
  intro v d hd
  rcases h.walk v d hd with h1 | ⟨h1, h2, _⟩
  · refine .inl ⟨h1, fun k hk => ?_⟩
    obtain ⟨d', hd', h0, _⟩ := key hk
    rw [Int.toNat_natCast, hd] at hd'
    have := Option.some.inj hd'
    omega
  · refine .inr ⟨h1, h2, fun k hk => ?_⟩
    obtain ⟨d', hd', _, hk'⟩ := key hk
    rw [Int.toNat_natCast, hd] at hd'
    have := Option.some.inj hd'
    omega
end Go.Den

/-
  What a search tells: whether there is a way, and how far it is. No program in sight.
-/
namespace Go.Den
open Go

def fndB (s : List It) (to most settle : Int) : Bool := (s.take settle.toNat).any fun x => decide (x.id = to) && decide (x.key ≤ most)
theorem fndB_iff {s : List It} {to most settle : Int} : fndB s to most settle = true ↔ ∃ (i : Nat) (d : Int), (i : Int) < settle ∧ s[i]? = some ⟨to, d⟩ ∧ d ≤ most := by
  unfold fndB
  rw [List.any_eq_true]
  constructor
  · rintro ⟨x, hx, hp⟩
    obtain ⟨i, hi⟩ := List.mem_iff_getElem?.1 hx
    have hlt := (List.getElem?_eq_some_iff.1 hi).1
    rw [List.length_take] at hlt
    rw [List.getElem?_take_of_lt (by omega)] at hi
    obtain ⟨a, b⟩ := x
    simp at hp
    exact ⟨i, b, by omega, by rw [hi, hp.1], hp.2⟩
  · rintro ⟨i, d, h1, h2, h3⟩
    refine ⟨⟨to, d⟩, List.mem_iff_getElem?.2 ⟨i, ?_⟩, by simpa using h3⟩
    rw [List.getElem?_take_of_lt (by omega)]; exact h2
/-- Find's answer. -/
def witB (n : Nat) (L : List Arc) (a to c most settle : Int) : Bool := decide (0 ≤ a ∧ a < n) && (decide (0 ≤ to ∧ to < n) && (decide (a ≠ c) && fndB (settled n L c a) to most settle))
/-- Far's answer. -/
def farO (n : Nat) (L : List Arc) (a to : Int) : Option Int := if (0 ≤ a ∧ a < n) ∧ (0 ≤ to ∧ to < n) then keyQ (settled n L (-1) a) to else none

/-- Whether one stops behind the k-th. -/
def stopF (s : List It) (to settle : Int) (k : Nat) : Bool := (match s[k]? with | some x => decide (x.id = to) | none => false) || decide (settle = (k : Int) + 1)
def foundF (s : List It) (to most : Int) : Nat → Bool
  | 0 => false
  | k + 1 => match s[k]? with | some x => decide (x.id = to) && decide (x.key ≤ most) | none => false
theorem foundF_succ (s : List It) (to most : Int) (k : Nat) : foundF s to most (k + 1) = match s[k]? with | some x => decide (x.id = to) && decide (x.key ≤ most) | none => false := rfl
theorem found_end {s : List It} {to most settle : Int} (h1 : One s) (hd : s.Nodup) (hs : 1 ≤ settle) {m : Nat} (hm : m ≤ s.length) (hst : ∀ j, j + 1 < m → stopF s to settle j = false)
    (hend : (m = s.length ∧ ∀ j, j < m → stopF s to settle j = false) ∨ ∃ j, m = j + 1 ∧ stopF s to settle j = true) : foundF s to most m = fndB s to most settle := by
  have no : ∀ j, stopF s to settle j = false → ∀ x, s[j]? = some x → x.id ≠ to ∧ settle ≠ (j : Int) + 1 := fun j hj x hx => by
    unfold stopF at hj; rw [hx] at hj; simpa using hj
  rw [Bool.eq_iff_iff, fndB_iff]
  rcases hend with ⟨rfl, hno⟩ | ⟨j, rfl, hj⟩
  · constructor
    · intro hf
      cases hl : s.length with
      | zero => rw [hl] at hf; cases hf
      | succ k =>
        rw [hl] at hf
        rw [foundF_succ] at hf
        have hx := List.getElem?_eq_getElem (show k < s.length by omega)
        rw [hx] at hf
        have := (no k (hno k (by omega)) _ hx).1
        simp [this] at hf
    · rintro ⟨i, d, _, hi, _⟩
      have hlt := (List.getElem?_eq_some_iff.1 hi).1
      exact absurd rfl (no i (hno i hlt) _ hi).1
  · have hx := List.getElem?_eq_getElem (show j < s.length by omega)
    have hge : (j : Int) < settle := by
      rcases Int.lt_or_le (j : Int) settle with h | h
      · exact h
      · obtain ⟨i, hi⟩ : ∃ i : Nat, settle = (i : Int) + 1 := ⟨(settle - 1).toNat, by omega⟩
        have hlt : i < s.length := by omega
        exact absurd hi (no i (hst i (by omega)) _ (List.getElem?_eq_getElem hlt)).2
    rw [foundF_succ, hx]
    generalize s[j] = x at hx
    constructor
    · intro hf
      simp at hf
      exact ⟨j, x.key, hge, by rw [hx, ← hf.1], hf.2⟩
    · rintro ⟨i, d, hi, hsi, hdm⟩
      have hij : i = j := by
        rcases Nat.lt_trichotomy i j with h | h | h
        · exact absurd rfl (no i (hst i (by omega)) _ hsi).1
        · exact h
        · -- then it has not stopped at j but by its count
          unfold stopF at hj
          rw [hx] at hj
          simp at hj
          rcases hj with hj | hj
          · have he := h1 x (List.mem_of_getElem? hx) _ (List.mem_of_getElem? hsi) hj
            have hi' := (List.getElem?_eq_some_iff.1 hsi).1
            have hn := List.pairwise_iff_getElem.1 hd j i (by omega) hi' h
            have e1 : s[j]'(by omega) = x := (List.getElem?_eq_some_iff.1 hx).2
            have e2 : s[i] = ⟨to, d⟩ := (List.getElem?_eq_some_iff.1 hsi).2
            rw [e1, e2] at hn
            exact absurd he hn
          · omega
      subst hij
      rw [hsi] at hx; cases hx
      simpa using hdm

section
variable {m : Nat} {L : List Arc} (hL : OkL m L) (c : Int) {a : Int} (ha : 0 ≤ a) (ha' : a < m)
include hL ha ha'
theorem settled_nodup : (settled m L c a).Nodup := by
  have h := (run_inv hL c ha ha' m).dis
  unfold settled
  exact List.Pairwise.imp (fun {x y} h e => h (by rw [e])) (List.pairwise_map.1 h)
theorem settled_One : One (settled m L c a) := fun _ hx _ hy e => settled_one hL c ha ha' hx hy e
end

theorem wit_iff {n : Nat} {L : List Arc} {a to c : Int} (ha : 0 ≤ a ∧ a < n) (ht : 0 ≤ to ∧ to < n) (hac : a ≠ c) (k s : Int) : witB n L a to c k s = true ↔ ∃ (i : Nat) (d : Int), (i : Int) < s ∧ (settled n L c a)[i]? = some ⟨to, d⟩ ∧ d ≤ k := by
  rw [← fndB_iff]
  unfold witB
  rw [decide_eq_true ha, decide_eq_true ht, decide_eq_true hac]; rfl
theorem wit_mono {n : Nat} {L : List Arc} {a to c k s k' s' : Int} (hk : k ≤ k') (hs : s ≤ s') (h : witB n L a to c k s = true) : witB n L a to c k' s' = true := by
  unfold witB at h ⊢
  simp only [Bool.and_eq_true] at h ⊢
  refine ⟨h.1, h.2.1, h.2.2.1, ?_⟩
  obtain ⟨i, d, h1, h2, h3⟩ := fndB_iff.1 h.2.2.2
  exact fndB_iff.2 ⟨i, d, by omega, h2, by omega⟩
theorem wit_self (n : Nat) (L : List Arc) (a to k s : Int) : witB n L a to a k s = false := by
  unfold witB; simp
/-- What is found is no heavier than the way is long. -/
theorem wit_walk {n : Nat} {L : List Arc} (hL : OkL n L) {a to c k s : Int} (ha : 0 ≤ a ∧ a < n) (ht : 0 ≤ to ∧ to < n) (h : witB n L a to c k s = true) : ∃ d, d ≤ k ∧ Walk L c a to d ∧ ∀ d', Walk L c a to d' → d ≤ d' := by
  have hac : a ≠ c := fun e => by subst e; rw [wit_self] at h; cases h
  obtain ⟨i, d, _, h2, h3⟩ := (wit_iff ha ht hac k s).1 h
  exact ⟨d, h3, (settled_dist hL c ha.1 ha.2).1 (List.mem_of_getElem? h2)⟩
theorem wit_all {n : Nat} {L : List Arc} (hL : OkL n L) {a to c k : Int} (ha : 0 ≤ a ∧ a < n) (ht : 0 ≤ to ∧ to < n) (hac : a ≠ c) {d : Int} (hw : Walk L c a to d) (hd : d ≤ k) : witB n L a to c k n = true := by
  obtain ⟨e, he, hm⟩ := settled_reach hL c ha.1 ha.2 hw
  obtain ⟨i, hi⟩ := List.mem_iff_getElem?.1 hm
  have h1 := settled_len hL c ha.1 ha.2
  have h2 := (List.getElem?_eq_some_iff.1 hi).1
  exact (wit_iff ha ht hac k n).2 ⟨i, e, by omega, hi, by omega⟩
theorem far_iff {n : Nat} {L : List Arc} (hL : OkL n L) {a to d : Int} (ha : 0 ≤ a ∧ a < n) (ht : 0 ≤ to ∧ to < n) : farO n L a to = some d ↔ Walk L (-1) a to d ∧ ∀ d', Walk L (-1) a to d' → d ≤ d' := by
  unfold farO
  rw [if_pos ⟨ha, ht⟩, ← settled_dist hL (-1) ha.1 ha.2]
  exact ⟨keyQ_some, fun h => keyQ_mem (settled_One hL (-1) ha.1 ha.2) h⟩
theorem far_reach {n : Nat} {L : List Arc} (hL : OkL n L) {a to d : Int} (ha : 0 ≤ a ∧ a < n) (ht : 0 ≤ to ∧ to < n) (hw : Walk L (-1) a to d) : ∃ e, e ≤ d ∧ farO n L a to = some e := by
  obtain ⟨e, he, hm⟩ := settled_reach hL (-1) ha.1 ha.2 hw
  exact ⟨e, he, (far_iff hL ha ht).2 ((settled_dist hL (-1) ha.1 ha.2).1 hm)⟩
theorem far_bnd {n : Nat} {L : List Arc} (hL : OkL n L) {a to d : Int} (h : farO n L a to = some d) : 0 ≤ d ∧ d ≤ n * 1099511627776 := by
  unfold farO at h
  split at h
  · rename_i hc
    have := settled_bnd hL (-1) hc.1.1 hc.1.2 (keyQ_some h)
    exact ⟨this.1, this.2.1⟩
  · cases h
/-- A distance in what is left is as told. -/
theorem dist_cut {n : Nat} {L : List Arc} (hL : OkL n L) {a c v d : Int} (hac : a ≠ c) (h : DistIs (cutL L c) a v d) : (d = -1 ∧ ∀ k, ¬ Walk L c a v k) ∨ (0 ≤ d ∧ Walk L c a v d ∧ ∀ k, Walk L c a v k → d ≤ k) := by
  rcases h with ⟨h1, h2⟩ | ⟨h1, h2, h3⟩
  · exact .inl ⟨h1, fun k hk => h2 k ((walk_cut hL hac).2 hk)⟩
  · exact .inr ⟨h1, (walk_cut hL hac).1 h2, fun k hk => h3 k ((walk_cut hL hac).2 hk)⟩
end Go.Den

/-
  Shortcuts, worth, and who goes first. No program in sight.
-/
namespace Go.Den
open Go

/-- Whether two arcs over a number need a shortcut. -/
def needB (n : Nat) (L : List Arc) (v : Int) (a b : Arc) : Bool := !decide (a.f = b.t) && !witB n L a.f b.t v (a.w + b.w) 30
def shortP (n : Nat) (L : List Arc) (v : Int) (a : Arc) (bs : List Arc) : List Arc := (bs.filter (needB n L v a)).map fun b => ⟨a.f, b.t, a.w + b.w, v⟩
def shortL (n : Nat) (L : List Arc) (v : Int) : List Arc := (inL L v).flatMap fun a => shortP n L v a (outL L v)
def worthL (n : Nat) (L : List Arc) (v : Int) : Int := (shortL n L v).length - (inL L v).length - (outL L v).length
def isGone (gs : List Bool) (v : Nat) : Bool := gs.getD v false
def firstStep (n : Nat) (L : List Arc) (gs : List Bool) (z : Int × Int) (v : Nat) : Int × Int :=
  if isGone gs v then z else if z.1 < 0 then ((v : Int), worthL n L v) else if worthL n L v < z.2 then ((v : Int), worthL n L v) else z
def firstUpto (n : Nat) (L : List Arc) (gs : List Bool) (k : Nat) : Int × Int := (List.range k).foldl (firstStep n L gs) (-1, 0)
def firstL (n : Nat) (L : List Arc) (gs : List Bool) : Int := (firstUpto n L gs n).1
theorem firstUpto_succ (n : Nat) (L : List Arc) (gs : List Bool) (k : Nat) : firstUpto n L gs (k + 1) = firstStep n L gs (firstUpto n L gs k) k := by
  unfold firstUpto; rw [List.range_succ, List.foldl_append]; rfl

theorem shortP_snoc (n : Nat) (L : List Arc) (v : Int) (a : Arc) (bs : List Arc) (b : Arc) : shortP n L v a (bs ++ [b]) = shortP n L v a bs ++ (if needB n L v a b then [⟨a.f, b.t, a.w + b.w, v⟩] else []) := by
  unfold shortP
  rw [List.filter_append, List.map_append]
  congr 1
  simp only [List.filter_cons, List.filter_nil]
  split <;> simp
theorem shortP_len (n : Nat) (L : List Arc) (v : Int) (a : Arc) (bs : List Arc) : (shortP n L v a bs).length ≤ bs.length := by
  unfold shortP; rw [List.length_map]; exact List.length_filter_le _ _
theorem short_len (n : Nat) (L : List Arc) (v : Int) (as_ : List Arc) : (as_.flatMap fun a => shortP n L v a (outL L v)).length ≤ as_.length * (outL L v).length := by
  induction as_ with
  | nil => simp
  | cons a r ih =>
    have := shortP_len n L v a (outL L v)
    simp only [List.flatMap_cons, List.length_append, List.length_cons]
    rw [Nat.add_mul]; omega
theorem mem_short {n : Nat} {L : List Arc} {v : Int} {x : Arc} : x ∈ shortL n L v ↔ ∃ a ∈ inL L v, ∃ b ∈ outL L v, needB n L v a b = true ∧ x = ⟨a.f, b.t, a.w + b.w, v⟩ := by
  unfold shortL
  rw [List.mem_flatMap]
  constructor
  · rintro ⟨a, ha, hx⟩
    unfold shortP at hx
    obtain ⟨b, hb, rfl⟩ := List.mem_map.1 hx
    obtain ⟨h1, h2⟩ := List.mem_filter.1 hb
    exact ⟨a, ha, b, h1, h2, rfl⟩
  · rintro ⟨a, ha, b, hb, h, rfl⟩
    refine ⟨a, ha, ?_⟩
    unfold shortP
    exact List.mem_map.2 ⟨b, List.mem_filter.2 ⟨hb, h⟩, rfl⟩
theorem short_bnd {n : Nat} {L : List Arc} (hL : OkL n L) (hn : n ≤ 512) (v : Int) : (shortL n L v).length ≤ 262144 := by
  have h1 := short_len n L v (inL L v)
  have h2 := hL.in_len v
  have h3 := hL.out_len v
  have : (inL L v).length * (outL L v).length ≤ 512 * 512 := Nat.mul_le_mul (by omega) (by omega)
  unfold shortL; omega
theorem worth_bnd {n : Nat} {L : List Arc} (hL : OkL n L) (hn : n ≤ 512) (v : Int) : -2000 < worthL n L v ∧ worthL n L v < 300000 := by
  have h1 := short_bnd hL hn v
  have h2 := hL.in_len v
  have h3 := hL.out_len v
  unfold worthL; omega

/-- Who goes first has the least worth, and is the least of those. -/
structure FirstOk (n : Nat) (L : List Arc) (gs : List Bool) (k : Nat) (z : Int × Int) : Prop where
  none : z.1 < 0 → z.1 = -1 ∧ ∀ v, v < k → isGone gs v = true
  some : 0 ≤ z.1 → z.1 < k ∧ isGone gs z.1.toNat = false ∧ z.2 = worthL n L z.1 ∧ ∀ v, v < k → isGone gs v = false → z.2 ≤ worthL n L v ∧ (worthL n L v = z.2 → z.1 ≤ v)
theorem first_ok (n : Nat) (L : List Arc) (gs : List Bool) : ∀ k, FirstOk n L gs k (firstUpto n L gs k)
  | 0 => ⟨fun _ => ⟨rfl, fun v hv => by omega⟩, fun h => absurd h (by show ¬ ((0 : Int) ≤ -1); decide)⟩
  | k + 1 => by
    have ih := first_ok n L gs k
    rw [firstUpto_succ]
    generalize firstUpto n L gs k = z at *
    unfold firstStep
    by_cases hg : isGone gs k = true
    · rw [if_pos hg]
      refine ⟨fun h => ⟨(ih.none h).1, fun v hv => ?_⟩, fun h => ?_⟩
      · by_cases e : v = k
        · rw [e]; exact hg
        · exact (ih.none h).2 v (by omega)
      · obtain ⟨h1, h2, h3, h4⟩ := ih.some h
        refine ⟨by omega, h2, h3, fun v hv hgv => ?_⟩
        by_cases e : v = k
        · rw [e, hg] at hgv; cases hgv
        · exact h4 v (by omega) hgv
    · rw [if_neg hg]
      have hg' : isGone gs k = false := by simpa using hg
      by_cases h0 : z.1 < 0
      · rw [if_pos h0]
        refine ⟨fun h => by simp only at h; omega, fun _ => ⟨by simp only; omega, by simpa using hg', rfl, fun v hv hgv => ?_⟩⟩
        by_cases e : v = k
        · subst e; exact ⟨Int.le_refl _, fun _ => Int.le_refl _⟩
        · rw [(ih.none h0).2 v (by omega)] at hgv; cases hgv
      · rw [if_neg h0]
        obtain ⟨h1, h2, h3, h4⟩ := ih.some (by omega)
        by_cases hw : worthL n L k < z.2
        · rw [if_pos hw]
          refine ⟨fun h => by simp only at h; omega, fun _ => ⟨by simp only; omega, by simpa using hg', rfl, fun v hv hgv => ?_⟩⟩
          by_cases e : v = k
          · subst e; exact ⟨Int.le_refl _, fun _ => Int.le_refl _⟩
          · have := (h4 v (by omega) hgv).1
            simp only
            exact ⟨by omega, fun e' => by omega⟩
        · rw [if_neg hw]
          refine ⟨fun h => absurd h h0, fun _ => ⟨by omega, h2, h3, fun v hv hgv => ?_⟩⟩
          by_cases e : v = k
          · subst e; exact ⟨by omega, fun _ => by omega⟩
          · exact h4 v (by omega) hgv

/-! ### With a number cut, and its shortcuts put -/

theorem find_le {l : List Arc} {f t : Int} {x : Arc} (hs : LSrt l) (hx : x ∈ l) (hf : x.f = f) (ht : x.t = t) : findL l f t = some x := by subst hf; subst ht; exact findL_eq hs hx
/-- A net has of each two numbers an arc no heavier than what was put. -/
theorem put_light {m : Nat} {l : List Arc} (h : OkL m l) {a : Arc} (ha : mayA m a) : (∃ y ∈ (putL m l a).1, y.f = a.f ∧ y.t = a.t ∧ y.w ≤ a.w) ∧ ∀ x ∈ l, ∃ y ∈ (putL m l a).1, y.f = x.f ∧ y.t = x.t ∧ y.w ≤ x.w := by
  unfold putL
  rw [if_pos ha]
  have ins : (∃ y ∈ insL l a, y.f = a.f ∧ y.t = a.t ∧ y.w ≤ a.w) := ⟨a, mem_insL.2 (.inl rfl), rfl, rfl, Int.le_refl _⟩
  have old : ∀ x ∈ l, ¬ (x.f = a.f ∧ x.t = a.t) → ∃ y ∈ insL l a, y.f = x.f ∧ y.t = x.t ∧ y.w ≤ x.w := fun x hx hn => ⟨x, mem_insL.2 (.inr ⟨hx, hn⟩), rfl, rfl, Int.le_refl _⟩
  cases hf : findL l a.f a.t with
  | none => exact ⟨ins, fun x hx => old x hx (findL_none hf x hx)⟩
  | some z =>
    obtain ⟨hz, z1, z2⟩ := findL_some hf
    simp only
    split
    · exact ⟨⟨z, hz, z1, z2, by assumption⟩, fun x hx => ⟨x, hx, rfl, rfl, Int.le_refl _⟩⟩
    · refine ⟨ins, fun x hx => ?_⟩
      by_cases e : x.f = a.f ∧ x.t = a.t
      · have : x = z := by have := find_le h.srt hx e.1 e.2; rw [hf] at this; exact (Option.some.inj this).symm
        subst this
        exact ⟨a, mem_insL.2 (.inl rfl), e.1.symm, e.2.symm, by omega⟩
      · exact old x hx e
theorem putAll_light {m : Nat} : ∀ (xs : List Arc) {l : List Arc}, OkL m l → (∀ a ∈ xs, mayA m a) → ∀ x, x ∈ l ∨ x ∈ xs → ∃ y ∈ putAll m l xs, y.f = x.f ∧ y.t = x.t ∧ y.w ≤ x.w
  | [], l, h, _, x, hx => by
    rcases hx with hx | hx
    · exact ⟨x, hx, rfl, rfl, Int.le_refl _⟩
    · cases hx
  | a :: xs, l, h, hm, x, hx => by
    have hp := put_light h (hm a (by simp))
    have ih := putAll_light xs (putL_ok h a) fun b hb => hm b (by simp [hb])
    have step : (∃ y ∈ (putL m l a).1, y.f = x.f ∧ y.t = x.t ∧ y.w ≤ x.w) ∨ x ∈ xs := by
      rcases hx with hx | hx
      · exact .inl (hp.2 x hx)
      · rcases List.mem_cons.1 hx with rfl | hx
        · exact .inl hp.1
        · exact .inr hx
    rcases step with ⟨y, hy, e1, e2, e3⟩ | hx
    · obtain ⟨z, hz, e4, e5, e6⟩ := ih y (.inl hy)
      exact ⟨z, hz, e4.trans e1, e5.trans e2, Int.le_trans e6 e3⟩
    · exact ih x (.inr hx)
theorem put_sub {m : Nat} {l : List Arc} {a x : Arc} (h : x ∈ (putL m l a).1) : x ∈ l ∨ x = a := by
  unfold putL at h
  split at h
  · split at h
    · split at h
      · exact .inl h
      · rcases mem_insL.1 h with rfl | ⟨h, _⟩
        · exact .inr rfl
        · exact .inl h
    · rcases mem_insL.1 h with rfl | ⟨h, _⟩
      · exact .inr rfl
      · exact .inl h
  · exact .inl h
theorem putAll_sub {m : Nat} : ∀ (xs : List Arc) {l : List Arc} {x : Arc}, x ∈ putAll m l xs → x ∈ l ∨ x ∈ xs
  | [], _, _, h => .inl h
  | a :: xs, l, x, h => by
    rcases putAll_sub xs (l := (putL m l a).1) h with h | h
    · rcases put_sub h with h | rfl
      · exact .inl h
      · exact .inr (by simp)
    · exact .inr (by simp [h])

section
variable {n : Nat} {L : List Arc} (hL : OkL n L) {v : Int} (hw : ∀ e ∈ L, e.w ≤ 549755813888)
include hL hw
theorem short_may (hv0 : 0 ≤ v) (hv1 : v < n) : ∀ x ∈ shortL n L v, mayA n x ∧ x.m = v ∧ x.f ≠ v ∧ x.t ≠ v := by
  intro x hx
  obtain ⟨a, ha, b, hb, hn, rfl⟩ := mem_short.1 hx
  obtain ⟨ha, hat⟩ := mem_inL.1 ha
  obtain ⟨hb, hbf⟩ := mem_outL.1 hb
  obtain ⟨a0, a1, a2, a3, a4, a5, a6, _⟩ := hL.may a ha
  obtain ⟨b0, b1, b2, b3, b4, b5, b6, _⟩ := hL.may b hb
  have hne : a.f ≠ b.t := by unfold needB at hn; simp at hn; exact hn.1
  have h1 := hw a ha
  have h2 := hw b hb
  have e1 : a.f ≠ v := by omega
  have e2 : b.t ≠ v := by omega
  exact ⟨⟨a0, a1, b2, b3, hne, by show 1 ≤ a.w + b.w; omega, by show a.w + b.w ≤ _; omega, .inr ⟨hv0, hv1, fun e => e1 e.symm, fun e => e2 e.symm⟩⟩, rfl, e1, e2⟩
/-- All that are left are as far from each other as before. -/
theorem keeps_to (hv0 : 0 ≤ v) (hv1 : v < n) {a b d : Int} (ha : a ≠ v) (h : Walk L (-1) a b d) :
    (b ≠ v → ∃ d', d' ≤ d ∧ Walk (putAll n (cutL L v) (shortL n L v)) (-1) a b d') ∧ (b = v → ∃ e ∈ inL L v, ∃ d', Walk (putAll n (cutL L v) (shortL n L v)) (-1) a e.f d' ∧ d' + e.w ≤ d) := by
  have hmay := short_may hL hw hv0 hv1
  have hO : OkL n (putAll n (cutL L v) (shortL n L v)) := putAll_ok _ (hL.cut v)
  have light := putAll_light (shortL n L v) (hL.cut v) fun x hx => (hmay x hx).1
  generalize putAll n (cutL L v) (shortL n L v) = O at *
  have arc : ∀ x, x ∈ cutL L v ∨ x ∈ shortL n L v → ∀ d, Walk O (-1) a x.f d → ∃ d', d' ≤ d + x.w ∧ Walk O (-1) a x.t d' := fun x hx d hd => by
    obtain ⟨y, hy, e1, e2, e3⟩ := light x hx
    have := Walk.snoc y hd hy e1 (by have := (hO.may y hy).2.2.1; omega)
    rw [e2] at this
    exact ⟨d + y.w, by omega, this⟩
  have along : ∀ {p q d2 : Int}, Walk (cutL L v) (-1) p q d2 → ∀ d1, Walk O (-1) a p d1 → ∃ d', d' ≤ d1 + d2 ∧ Walk O (-1) a q d' := by
    intro p q d2 hpq
    induction hpq with
    | nil => intro d1 h1; exact ⟨d1, by omega, h1⟩
    | snoc e _ he hf _ ih =>
      intro d1 h1
      obtain ⟨d', hd', hw'⟩ := ih d1 h1
      rw [← hf] at hw'
      obtain ⟨d'', h2, h3⟩ := arc e (.inl he) d' hw'
      exact ⟨d'', by omega, h3⟩
  induction h with
  | nil => exact ⟨fun _ => ⟨0, Int.le_refl _, .nil⟩, fun e => absurd e ha⟩
  | @snoc x d e h he hf ht ih =>
    have heft := (hL.may e he).2.2.2.2.1
    refine ⟨fun hbv => ?_, fun hbv => ?_⟩
    · by_cases hfv : e.f = v
      · -- over the number itself
        obtain ⟨e1, he1, d1, hw1, hd1⟩ := ih.2 (hf.symm.trans hfv)
        obtain ⟨he1L, he1t⟩ := mem_inL.1 he1
        by_cases hsame : e1.f = e.t
        · rw [hsame] at hw1
          have := (hL.may e he).2.2.2.2.2.1
          have := (hL.may e1 he1L).2.2.2.2.2.1
          exact ⟨d1, by omega, hw1⟩
        · have hout : e ∈ outL L v := mem_outL.2 ⟨he, hfv⟩
          obtain ⟨b0, b1, b2, b3, _⟩ := hL.may e he
          obtain ⟨c0, c1, c2, c3, c4, _⟩ := hL.may e1 he1L
          cases hwit : witB n L e1.f e.t v (e1.w + e.w) 30 with
          | true =>
            obtain ⟨d2, hd2, hw2, _⟩ := wit_walk hL ⟨c0, c1⟩ ⟨b2, b3⟩ hwit
            have hw3 := (walk_cut hL (by omega)).2 hw2
            obtain ⟨d', h1, h2⟩ := along hw3 d1 hw1
            exact ⟨d', by omega, h2⟩
          | false =>
            have hneed : needB n L v e1 e = true := by unfold needB; rw [hwit]; simp [hsame]
            obtain ⟨d', h1, h2⟩ := arc ⟨e1.f, e.t, e1.w + e.w, v⟩ (.inr (mem_short.2 ⟨e1, he1, e, hout, hneed, rfl⟩)) d1 hw1
            refine ⟨d', ?_, h2⟩
            have : d' ≤ d1 + (e1.w + e.w) := h1
            omega
      · obtain ⟨d1, hd1, hw1⟩ := ih.1 (fun e' => hfv (hf.trans e'))
        rw [← hf] at hw1
        obtain ⟨d', h1, h2⟩ := arc e (.inl (mem_cutL.2 ⟨he, hfv, hbv⟩)) d1 hw1
        exact ⟨d', by omega, h2⟩
    · have hfv : e.f ≠ v := by omega
      obtain ⟨d1, hd1, hw1⟩ := ih.1 (fun e' => hfv (hf.trans e'))
      rw [← hf] at hw1
      exact ⟨e, mem_inL.2 ⟨he, hbv⟩, d1, hw1, by omega⟩
omit hw in
theorem keeps_back {a b d : Int} (h : Walk (putAll n (cutL L v) (shortL n L v)) (-1) a b d) : Walk L (-1) a b d := by
  induction h with
  | nil => exact .nil
  | snoc e _ he hf _ ih =>
    rcases putAll_sub _ he with h | h
    · obtain ⟨hc, _, _⟩ := mem_cutL.1 h
      exact .snoc e ih hc hf (by have := (hL.may e hc).2.2.1; omega)
    · obtain ⟨x, hx, y, hy, _, rfl⟩ := mem_short.1 h
      obtain ⟨hx, hxt⟩ := mem_inL.1 hx
      obtain ⟨hy, hyf⟩ := mem_outL.1 hy
      have h1 := Walk.snoc x ih hx hf (by have := (hL.may x hx).2.2.1; omega)
      have h2 := Walk.snoc y h1 hy (hyf.trans hxt.symm) (by have := (hL.may y hy).2.2.1; omega)
      rw [Int.add_assoc] at h2
      exact h2
theorem keeps_dist (hv0 : 0 ≤ v) (hv1 : v < n) {a b x y : Int} (ha : a ≠ v) (hb : b ≠ v) (hx : DistIs L a b x) (hy : DistIs (putAll n (cutL L v) (shortL n L v)) a b y) : x = y := by
  have t1 : ∀ d, Walk L (-1) a b d → ∃ d', d' ≤ d ∧ Walk (putAll n (cutL L v) (shortL n L v)) (-1) a b d' := fun d hd => (keeps_to hL hw hv0 hv1 ha hd).1 hb
  have t2 : ∀ d, Walk (putAll n (cutL L v) (shortL n L v)) (-1) a b d → Walk L (-1) a b d := fun d hd => keeps_back hL hd
  rcases hx with ⟨hx, h1⟩ | ⟨hx, h1, h2⟩ <;> rcases hy with ⟨hy, h3⟩ | ⟨hy, h3, h4⟩
  · rw [hx, hy]
  · exact absurd (t2 _ h3) (h1 _)
  · obtain ⟨d', _, hd⟩ := t1 _ h1
    exact absurd hd (h3 _)
  · obtain ⟨d', hle, hd⟩ := t1 _ h1
    have := h4 _ hd
    have := h2 _ (t2 _ h3)
    omega
end
/-- What stands behind a place of the shortcuts' row. -/
theorem short_split (n : Nat) (L : List Arc) (v : Int) {i j : Nat} (hi : i < (inL L v).length) (hj : j < (outL L v).length) :
    shortL n L v = ((inL L v).take i).flatMap (fun a => shortP n L v a (outL L v)) ++ (shortP n L v (inL L v)[i] ((outL L v).take j) ++ ((if needB n L v (inL L v)[i] (outL L v)[j] then [⟨(inL L v)[i].f, (outL L v)[j].t, (inL L v)[i].w + (outL L v)[j].w, v⟩] else []) ++
      (shortP n L v (inL L v)[i] ((outL L v).drop (j + 1)) ++ ((inL L v).drop (i + 1)).flatMap (fun a => shortP n L v a (outL L v))))) := by
  have e1 : inL L v = (inL L v).take i ++ (inL L v)[i] :: (inL L v).drop (i + 1) := by
    rw [← List.drop_eq_getElem_cons hi, List.take_append_drop]
  have e2 : outL L v = (outL L v).take j ++ ([(outL L v)[j]] ++ (outL L v).drop (j + 1)) := by
    rw [List.singleton_append, ← List.drop_eq_getElem_cons hj, List.take_append_drop]
  have e3 : shortP n L v (inL L v)[i] (outL L v) = shortP n L v (inL L v)[i] ((outL L v).take j) ++ ((if needB n L v (inL L v)[i] (outL L v)[j] then [⟨(inL L v)[i].f, (outL L v)[j].t, (inL L v)[i].w + (outL L v)[j].w, v⟩] else []) ++ shortP n L v (inL L v)[i] ((outL L v).drop (j + 1))) := by
    conv => lhs; rw [e2]
    unfold shortP
    rw [List.filter_append, List.filter_append, List.map_append, List.map_append]
    congr 2
    simp only [List.filter_cons, List.filter_nil]
    split <;> simp
  conv => lhs; unfold shortL; rw [e1]
  rw [List.flatMap_append, List.flatMap_cons]
  simp only [e3, List.append_assoc]
/-- The next shortcut stands for no arcs that need none. -/
theorem short_other {n : Nat} {L : List Arc} (hL : LSrt L) {v : Int} {i j : Nat} (hi : i < (inL L v).length) (hj : j < (outL L v).length) {x : Arc}
    (hx : x ∈ shortP n L v (inL L v)[i] ((outL L v).drop (j + 1)) ++ ((inL L v).drop (i + 1)).flatMap (fun a => shortP n L v a (outL L v))) : ¬ (x.f = (inL L v)[i].f ∧ x.t = (outL L v)[j].t) := by
  rintro ⟨h1, h2⟩
  rcases List.mem_append.1 hx with hx | hx
  · unfold shortP at hx
    obtain ⟨b, hb, rfl⟩ := List.mem_map.1 hx
    obtain ⟨q, hq⟩ := List.mem_iff_getElem?.1 (List.mem_filter.1 hb).1
    rw [List.getElem?_drop] at hq
    have := (hL.out v).get (p := j) (q := j + 1 + q) (by omega) (List.getElem?_eq_getElem hj) hq
    have h2' : b.t = (outL L v)[j].t := h2
    omega
  · obtain ⟨a, ha, hx⟩ := List.mem_flatMap.1 hx
    unfold shortP at hx
    obtain ⟨b, _, rfl⟩ := List.mem_map.1 hx
    obtain ⟨q, hq⟩ := List.mem_iff_getElem?.1 ha
    rw [List.getElem?_drop] at hq
    have := (hL.inn v).get (p := i) (q := i + 1 + q) (by omega) (List.getElem?_eq_getElem hi) hq
    have h1' : a.f = (inL L v)[i].f := h1
    omega
end Go.Den

/-
  Levels: one number after the other is taken out. No program in sight.
-/
namespace Go.Den
open Go

structure Bld where
  left : List Arc
  all : List Arc
  gone : List Bool
  rank : List Int
def bldStep (n : Nat) (k : Nat) (z : Bld) : Bld :=
  ⟨cutL (putAll n z.left (shortL n z.left (firstL n z.left z.gone))) (firstL n z.left z.gone), putAll n z.all (shortL n z.left (firstL n z.left z.gone)), z.gone.set (firstL n z.left z.gone).toNat true, z.rank.set (firstL n z.left z.gone).toNat (k : Int)⟩
def bldN (n : Nat) (L : List Arc) : Nat → Bld
  | 0 => ⟨L, L, List.replicate n false, List.replicate n 0⟩
  | k + 1 => bldStep n k (bldN n L k)

def goneN (gs : List Bool) : Nat := (gs.filter fun b => b).length
theorem goneN_set : ∀ {gs : List Bool} {i : Nat}, gs[i]? = some false → goneN (gs.set i true) = goneN gs + 1
  | [], i, h => by simp at h
  | b :: gs, 0, h => by simp at h; subst h; simp [goneN]
  | b :: gs, i + 1, h => by
    simp at h
    have ih := goneN_set (i := i) h
    simp only [List.set_cons_succ, goneN, List.filter_cons] at ih ⊢
    split
    · simp only [List.length_cons]; omega
    · exact ih
theorem goneN_some {gs : List Bool} (h : goneN gs < gs.length) : ∃ v, v < gs.length ∧ isGone gs v = false := by
  induction gs with
  | nil => simp at h
  | cons b gs ih =>
    cases b with
    | false => exact ⟨0, by simp, rfl⟩
    | true =>
      have : goneN gs < gs.length := by simp [goneN] at h ⊢; omega
      obtain ⟨v, h1, h2⟩ := ih this
      exact ⟨v + 1, by simpa using h1, by unfold isGone at h2 ⊢; simpa using h2⟩
theorem isGone_set {gs : List Bool} {i : Nat} (hi : i < gs.length) (v : Nat) : isGone (gs.set i true) v = (decide (v = i) || isGone gs v) := by
  unfold isGone
  simp only [List.getD_eq_getElem?_getD, List.getElem?_set]
  by_cases e : v = i
  · subst e; simp [hi]
  · rw [if_neg (fun h => e h.symm)]; simp [e]

theorem findL_filter {l : List Arc} {p : Arc → Bool} {f t : Int} (hp : ∀ x ∈ l, x.f = f → x.t = t → p x = true) : findL (l.filter p) f t = findL l f t := by
  unfold findL
  induction l with
  | nil => rfl
  | cons a l ih =>
    have ih' := ih fun x hx => hp x (by simp [hx])
    simp only [List.filter_cons]
    by_cases hpa : p a = true
    · rw [if_pos hpa]
      simp only [List.find?_cons]
      split
      · rfl
      · exact ih'
    · rw [if_neg hpa, ih']
      simp only [List.find?_cons]
      have : (decide (a.f = f) && decide (a.t = t)) = false := by
        by_cases e1 : a.f = f <;> by_cases e2 : a.t = t <;> simp [e1, e2]
        exact hpa (hp a (by simp) e1 e2)
      rw [this]
theorem findL_put {n : Nat} {l : List Arc} (h : OkL n l) (a : Arc) (f t : Int) : findL (putL n l a).1 f t =
    if mayA n a ∧ f = a.f ∧ t = a.t ∧ (match findL l f t with | some x => decide (x.w ≤ a.w) | none => false) = false then some a else findL l f t := by
  have ins : ∀ f t, findL (insL l a) f t = if f = a.f ∧ t = a.t then some a else findL l f t := fun f t => by
    have hs := h.srt.ins a
    by_cases e : f = a.f ∧ t = a.t
    · rw [if_pos e, e.1, e.2]
      exact findL_eq hs (mem_insL.2 (.inl rfl))
    · rw [if_neg e]
      cases hx : findL l f t with
      | none =>
        have hn := findL_none hx
        cases hy : findL (insL l a) f t with
        | none => rfl
        | some y =>
          obtain ⟨hm, h1, h2⟩ := findL_some hy
          rcases mem_insL.1 hm with rfl | ⟨hm, _⟩
          · exact absurd ⟨h1.symm, h2.symm⟩ e
          · exact absurd ⟨h1, h2⟩ (hn y hm)
      | some x =>
        obtain ⟨hm, h1, h2⟩ := findL_some hx
        have hm' : x ∈ insL l a := mem_insL.2 (.inr ⟨hm, fun e' => e ⟨h1.symm.trans e'.1, h2.symm.trans e'.2⟩⟩)
        have := findL_eq hs hm'
        rwa [h1, h2] at this
  unfold putL
  by_cases hm : mayA n a
  · rw [if_pos hm]
    cases hf : findL l a.f a.t with
    | none =>
      simp only
      rw [ins]
      by_cases e : f = a.f ∧ t = a.t
      · rw [if_pos e, if_pos ⟨hm, e.1, e.2, by rw [e.1, e.2, hf]⟩]
      · rw [if_neg e, if_neg (fun e' => e ⟨e'.2.1, e'.2.2.1⟩)]
    | some x =>
      simp only
      by_cases hw : x.w ≤ a.w
      · rw [if_pos hw]
        rw [if_neg]
        rintro ⟨_, e1, e2, e3⟩
        rw [e1, e2, hf] at e3
        simp at e3; omega
      · rw [if_neg hw, ins]
        by_cases e : f = a.f ∧ t = a.t
        · rw [if_pos e, if_pos ⟨hm, e.1, e.2, by rw [e.1, e.2, hf]; simpa using hw⟩]
        · rw [if_neg e, if_neg (fun e' => e ⟨e'.2.1, e'.2.2.1⟩)]
  · rw [if_neg hm, if_neg (fun e => hm e.1)]
/-- What finds alike, finds alike behind the same puts. -/
theorem findL_putAll_same {n : Nat} : ∀ (xs : List Arc) {l m : List Arc}, OkL n l → OkL n m → ∀ f t, findL l f t = findL m f t → findL (putAll n l xs) f t = findL (putAll n m xs) f t
  | [], _, _, _, _, _, _, h => h
  | a :: xs, l, m, hl, hm, f, t, h => by
    show findL (putAll n (putL n l a).1 xs) f t = findL (putAll n (putL n m a).1 xs) f t
    refine findL_putAll_same xs (putL_ok hl a) (putL_ok hm a) f t ?_
    rw [findL_put hl, findL_put hm, h]

structure BInv (n : Nat) (k : Nat) (z : Bld) : Prop where
  okl : OkL n z.left
  oka : OkL n z.all
  gl : z.gone.length = n
  rl : z.rank.length = n
  cnt : goneN z.gone = k
  wl : ∀ e ∈ z.left, e.w ≤ 20 * 2 ^ k
  wa : ∀ e ∈ z.all, e.w ≤ 20 * 2 ^ k
  lg : ∀ e ∈ z.left, isGone z.gone e.f.toNat = false ∧ isGone z.gone e.t.toNat = false
  same : ∀ f t : Int, 0 ≤ f → 0 ≤ t → isGone z.gone f.toNat = false → isGone z.gone t.toNat = false → findL z.all f t = findL z.left f t
  rk : ∀ v : Nat, v < n → isGone z.gone v = true → 0 ≤ z.rank.getD v 0 ∧ z.rank.getD v 0 < k
  inj : ∀ v w : Nat, v < n → w < n → isGone z.gone v = true → isGone z.gone w = true → z.rank.getD v 0 = z.rank.getD w 0 → v = w

theorem bld_first {n k : Nat} {z : Bld} (h : BInv n k z) (hk : k < n) : 0 ≤ firstL n z.left z.gone ∧ firstL n z.left z.gone < n ∧ isGone z.gone (firstL n z.left z.gone).toNat = false := by
  have hf := first_ok n z.left z.gone n
  obtain ⟨v, h1, h2⟩ := goneN_some (gs := z.gone) (by rw [h.cnt, h.gl]; exact hk)
  have : 0 ≤ (firstUpto n z.left z.gone n).1 := by
    rcases Int.lt_or_le (firstUpto n z.left z.gone n).1 0 with h' | h'
    · have := (hf.none h').2 v (by rw [← h.gl]; exact h1)
      rw [h2] at this; cases this
    · exact h'
  obtain ⟨a, b, _⟩ := hf.some this
  exact ⟨this, a, b⟩
theorem getD_set {l : List Int} {i : Nat} (hi : i < l.length) (x : Int) (v : Nat) : (l.set i x).getD v 0 = if v = i then x else l.getD v 0 := by
  simp only [List.getD_eq_getElem?_getD, List.getElem?_set]
  by_cases e : v = i
  · subst e; simp [hi]
  · rw [if_neg (fun h => e h.symm), if_neg e]
theorem bld_start {n : Nat} {L : List Arc} (hL : OkL n L) (hw : ∀ e ∈ L, e.w ≤ 20) : BInv n 0 (bldN n L 0) := by
  have g0 : ∀ v, isGone (List.replicate n false) v = false := fun v => by unfold isGone; rw [List.getD_eq_getElem?_getD, List.getElem?_replicate]; split <;> rfl
  refine ⟨hL, hL, by simp [bldN], by simp [bldN], ?_, fun e he => by have := hw e he; omega, fun e he => by have := hw e he; omega, fun e _ => ⟨g0 _, g0 _⟩, fun _ _ _ _ _ _ => rfl, fun v _ hv => ?_, fun v w _ _ hv => ?_⟩
  · show goneN (List.replicate n false) = 0
    unfold goneN
    rw [List.filter_eq_nil_iff.2 fun b hb => by rw [(List.mem_replicate.1 hb).2]; simp]; rfl
  · rw [show (bldN n L 0).gone = List.replicate n false from rfl, g0] at hv; cases hv
  · rw [show (bldN n L 0).gone = List.replicate n false from rfl, g0] at hv; cases hv
theorem short_w {n : Nat} {L : List Arc} {v : Int} {B : Int} (h : ∀ e ∈ L, e.w ≤ B) : ∀ x ∈ shortL n L v, x.w ≤ 2 * B := by
  intro x hx
  obtain ⟨a, ha, b, hb, _, rfl⟩ := mem_short.1 hx
  have h1 := h a (mem_inL.1 ha).1
  have h2 := h b (mem_outL.1 hb).1
  show a.w + b.w ≤ 2 * B; omega
theorem bld_step {n k : Nat} {z : Bld} (h : BInv n k z) (hk : k < n) : BInv n (k + 1) (bldStep n k z) := by
  obtain ⟨v0, v1, vg⟩ := bld_first h hk
  unfold bldStep
  generalize firstL n z.left z.gone = v at *
  have hlt : v.toNat < z.gone.length := by rw [h.gl]; omega
  have hltr : v.toNat < z.rank.length := by rw [h.rl]; omega
  have pw : (20 * 2 ^ (k + 1) : Int) = 2 * (20 * 2 ^ k) := by rw [Int.pow_succ]; omega
  have sw : ∀ x ∈ shortL n z.left v, x.w ≤ 20 * 2 ^ (k + 1) := fun x hx => by rw [pw]; exact short_w h.wl x hx
  have pos : (0 : Int) ≤ 20 * 2 ^ k := by have : (0 : Int) ≤ 2 ^ k := Int.pow_nonneg (by decide); omega
  have gset := isGone_set hlt
  have okp := putAll_ok (n := n) (shortL n z.left v) h.okl
  have sg : ∀ x ∈ shortL n z.left v, isGone z.gone x.f.toNat = false ∧ isGone z.gone x.t.toNat = false := fun x hx => by
    obtain ⟨a, ha, b, hb, _, rfl⟩ := mem_short.1 hx
    exact ⟨(h.lg a (mem_inL.1 ha).1).1, (h.lg b (mem_outL.1 hb).1).2⟩
  refine ⟨okp.cut v, putAll_ok _ h.oka, by simp [h.gl], by simp [h.rl], ?_, fun e he => ?_, fun e he => ?_, fun e he => ?_, fun f t hf0 ht0 hf ht => ?_, fun u hu hg => ?_, fun u w hu hw hgu hgw e => ?_⟩
  · have hget : z.gone[v.toNat]? = some false := by
      unfold isGone at vg
      rw [List.getD_eq_getElem?_getD, List.getElem?_eq_getElem hlt] at vg
      rw [List.getElem?_eq_getElem hlt]
      simpa using vg
    show goneN (z.gone.set v.toNat true) = k + 1
    rw [goneN_set hget, h.cnt]
  · rcases putAll_sub _ (mem_cutL.1 he).1 with h' | h'
    · have := h.wl e h'; rw [pw]; omega
    · exact sw e h'
  · rcases putAll_sub _ he with h' | h'
    · have := h.wa e h'; rw [pw]; omega
    · exact sw e h'
  · obtain ⟨he, ne1, ne2⟩ := mem_cutL.1 he
    have hm := okp.may e he
    have hg : isGone z.gone e.f.toNat = false ∧ isGone z.gone e.t.toNat = false := by
      rcases putAll_sub _ he with h' | h'
      · exact h.lg e h'
      · exact sg e h'
    show isGone (z.gone.set v.toNat true) _ = false ∧ isGone (z.gone.set v.toNat true) _ = false
    rw [gset, gset, hg.1, hg.2]
    have := hm.1
    have := hm.2.2.1
    constructor <;> simp <;> omega
  · replace hf : isGone (z.gone.set v.toNat true) f.toNat = false := hf
    replace ht : isGone (z.gone.set v.toNat true) t.toNat = false := ht
    rw [gset] at hf ht
    simp at hf ht
    show findL (putAll n z.all _) f t = findL (cutL (putAll n z.left _) v) f t
    have e1 := findL_putAll_same (shortL n z.left v) h.oka h.okl f t (h.same f t hf0 ht0 hf.2 ht.2)
    have e2 : findL (cutL (putAll n z.left (shortL n z.left v)) v) f t = findL (putAll n z.left (shortL n z.left v)) f t := findL_filter fun x _ e3 e4 => by
      simp only [Bool.and_eq_true, decide_eq_true_eq]
      exact ⟨fun e => hf.1 (by rw [← e3, e]), fun e => ht.1 (by rw [← e4, e])⟩
    rw [e1, e2]
  · replace hg : isGone (z.gone.set v.toNat true) u = true := hg
    show 0 ≤ (z.rank.set v.toNat (k : Int)).getD u 0 ∧ (z.rank.set v.toNat (k : Int)).getD u 0 < ((k + 1 : Nat) : Int)
    rw [gset] at hg
    rw [getD_set hltr]
    by_cases e : u = v.toNat
    · rw [if_pos e]; omega
    · rw [if_neg e]
      simp [e] at hg
      have := h.rk u hu hg
      omega
  · replace hgu : isGone (z.gone.set v.toNat true) u = true := hgu
    replace hgw : isGone (z.gone.set v.toNat true) w = true := hgw
    replace e : (z.rank.set v.toNat (k : Int)).getD u 0 = (z.rank.set v.toNat (k : Int)).getD w 0 := e
    rw [gset] at hgu hgw
    rw [getD_set hltr, getD_set hltr] at e
    by_cases e1 : u = v.toNat <;> by_cases e2 : w = v.toNat
    · rw [e1, e2]
    · rw [if_pos e1, if_neg e2] at e
      simp [e2] at hgw
      have := h.rk w hw hgw
      omega
    · rw [if_neg e1, if_pos e2] at e
      simp [e1] at hgu
      have := h.rk u hu hgu
      omega
    · rw [if_neg e1, if_neg e2] at e
      simp [e1] at hgu
      simp [e2] at hgw
      exact h.inj u w hu hw hgu hgw e
theorem bld_inv {n : Nat} {L : List Arc} (hL : OkL n L) (hw : ∀ e ∈ L, e.w ≤ 20) : ∀ k, k ≤ n → BInv n k (bldN n L k)
  | 0, _ => bld_start hL hw
  | k + 1, h => bld_step (bld_inv hL hw k (by omega)) (by omega)
theorem pow_bnd {k : Nat} (h : k ≤ 30) : (20 * 2 ^ k : Int) ≤ 549755813888 := by
  have : (2 ^ k : Nat) ≤ 2 ^ 30 := Nat.pow_le_pow_right (by decide) h
  have e : ((2 ^ k : Nat) : Int) = (2 ^ k : Int) := by simp
  omega
/-- All are gone in the end. -/
theorem bld_all {n : Nat} {z : Bld} (h : BInv n n z) (v : Nat) (hv : v < n) : isGone z.gone v = true := by
  cases hg : isGone z.gone v with
  | true => rfl
  | false =>
    have key : ∀ (gs : List Bool) (v : Nat), v < gs.length → isGone gs v = false → goneN gs < gs.length := by
      intro gs
      induction gs with
      | nil => intro v hv; simp at hv
      | cons b gs ih =>
        intro v hv hg
        have hle : goneN gs ≤ gs.length := List.length_filter_le _ _
        cases b with
        | false => simp [goneN] at hle ⊢; omega
        | true =>
          cases v with
          | zero => simp [isGone] at hg
          | succ v =>
            have := ih v (by simpa using hv) (by unfold isGone at hg ⊢; simpa using hg)
            simp [goneN] at this ⊢; omega
    have := key z.gone v (by rw [h.gl]; exact hv) hg
    rw [h.cnt, h.gl] at this; omega
end Go.Den

/-
  Levels: what their arcs are, and how far they reach. No program in sight.
-/
namespace Go.Den
open Go

theorem put_keep {n : Nat} {l : List Arc} (h : OkL n l) {a y : Arc} (hy : y ∈ l) (hne : ¬ (y.f = a.f ∧ y.t = a.t)) : y ∈ (putL n l a).1 := by
  unfold putL
  split
  · split
    · split
      · exact hy
      · exact mem_insL.2 (.inr ⟨hy, hne⟩)
    · exact mem_insL.2 (.inr ⟨hy, hne⟩)
  · exact hy
theorem putAll_keep {n : Nat} : ∀ (xs : List Arc) {l : List Arc}, OkL n l → ∀ y ∈ l, (∀ a ∈ xs, ¬ (y.f = a.f ∧ y.t = a.t)) → y ∈ putAll n l xs
  | [], _, _, _, hy, _ => hy
  | a :: xs, _, h, y, hy, hn => putAll_keep xs (putL_ok h a) y (put_keep h hy (hn a (by simp))) fun b hb => hn b (by simp [hb])

structure BOwn (n : Nat) (L : List Arc) (k : Nat) (z : Bld) : Prop where
  own : ∀ y ∈ z.all, y.m < 0 → y ∈ L
  light : ∀ e ∈ L, ∃ y ∈ z.all, y.f = e.f ∧ y.t = e.t ∧ y.w ≤ e.w
  half : ∀ e ∈ z.all, 0 ≤ e.m → isGone z.gone e.m.toNat = true ∧ (∃ a ∈ z.all, ∃ b ∈ z.all, a.f = e.f ∧ a.t = e.m ∧ b.f = e.m ∧ b.t = e.t ∧ a.w + b.w = e.w) ∧
    (isGone z.gone e.f.toNat = true → z.rank.getD e.m.toNat 0 < z.rank.getD e.f.toNat 0) ∧ (isGone z.gone e.t.toNat = true → z.rank.getD e.m.toNat 0 < z.rank.getD e.t.toNat 0)

section
variable {n k : Nat} {L : List Arc} {z : Bld}
/-- What has an end that is gone, or goes, stays. -/
theorem step_keep (h : BInv n k z) (hk : k < n) (hk30 : k ≤ 30) {y : Arc} (hy : y ∈ z.all)
    (hg : isGone z.gone y.f.toNat = true ∨ isGone z.gone y.t.toNat = true ∨ y.f = firstL n z.left z.gone ∨ y.t = firstL n z.left z.gone) : y ∈ (bldStep n k z).all := by
  obtain ⟨v0, v1, vg⟩ := bld_first h hk
  unfold bldStep
  generalize firstL n z.left z.gone = v at *
  have hm := short_may h.okl (v := v) (fun e he => by have := h.wl e he; have := pow_bnd hk30; omega) v0 v1
  refine putAll_keep _ h.oka y hy fun a ha => ?_
  obtain ⟨p, hp, q, hq, _, rfl⟩ := mem_short.1 ha
  have g1 := (h.lg p (mem_inL.1 hp).1).1
  have g2 := (h.lg q (mem_outL.1 hq).1).2
  obtain ⟨_, _, n1, n2⟩ := hm _ ha
  rintro ⟨e1, e2⟩
  have e1' : y.f = p.f := e1
  have e2' : y.t = q.t := e2
  rcases hg with hg | hg | hg | hg
  · rw [e1', g1] at hg; cases hg
  · rw [e2', g2] at hg; cases hg
  · exact n1 (show p.f = v by omega)
  · exact n2 (show q.t = v by omega)
/-- An arc that is left stands among all. -/
theorem left_all (h : BInv n k z) {y : Arc} (hy : y ∈ z.left) : y ∈ z.all := by
  obtain ⟨g1, g2⟩ := h.lg y hy
  have hm := h.okl.may y hy
  have e := h.same y.f y.t hm.1 hm.2.2.1 g1 g2
  rw [findL_eq h.okl.srt hy] at e
  exact (findL_some e).1
theorem own_start (L : List Arc) (hm : ∀ e ∈ L, e.m = -1) : BOwn n L 0 (bldN n L 0) :=
  ⟨fun y hy _ => hy, fun e he => ⟨e, he, rfl, rfl, Int.le_refl _⟩, fun e he h0 => by have := hm e he; omega⟩
theorem own_step (h : BInv n k z) (o : BOwn n L k z) (hk : k < n) (hk30 : k ≤ 30) : BOwn n L (k + 1) (bldStep n k z) := by
  have keep := fun y hy hg => step_keep h hk hk30 (y := y) hy hg
  obtain ⟨v0, v1, vg⟩ := bld_first h hk
  have hw : ∀ e ∈ z.left, e.w ≤ 549755813888 := fun e he => by have := h.wl e he; have := pow_bnd hk30; omega
  have hmay := short_may h.okl (v := firstL n z.left z.gone) hw v0 v1
  have light := putAll_light (shortL n z.left (firstL n z.left z.gone)) h.oka fun a ha => (hmay a ha).1
  unfold bldStep at *
  generalize firstL n z.left z.gone = v at *
  have hlt : v.toNat < z.gone.length := by rw [h.gl]; omega
  have hltr : v.toNat < z.rank.length := by rw [h.rl]; omega
  have gset := isGone_set hlt
  refine ⟨fun y hy hm => ?_, fun e he => ?_, fun e he hm => ?_⟩
  · rcases putAll_sub _ hy with h' | h'
    · exact o.own y h' hm
    · have := (hmay y h').2.1; omega
  · obtain ⟨y, hy, e1, e2, e3⟩ := o.light e he
    obtain ⟨y', hy', e4, e5, e6⟩ := light y (.inl hy)
    exact ⟨y', hy', e4.trans e1, e5.trans e2, Int.le_trans e6 e3⟩
  · show isGone (z.gone.set v.toNat true) _ = true ∧ (∃ a ∈ putAll n z.all _, ∃ b ∈ putAll n z.all _, _) ∧ (isGone (z.gone.set v.toNat true) _ = true → (z.rank.set v.toNat (k : Int)).getD _ 0 < (z.rank.set v.toNat (k : Int)).getD _ 0) ∧ (isGone (z.gone.set v.toNat true) _ = true → (z.rank.set v.toNat (k : Int)).getD _ 0 < (z.rank.set v.toNat (k : Int)).getD _ 0)
    rw [gset, gset, gset, getD_set hltr, getD_set hltr, getD_set hltr]
    rcases putAll_sub _ he with h' | h'
    · obtain ⟨g, ⟨a, ha, b, hb, a1, a2, b1, b2, hab⟩, r1, r2⟩ := o.half e h' hm
      have hem : e.m.toNat ≠ v.toNat := fun e' => by rw [e', vg] at g; cases g
      have hma := h.oka.may e h'
      have hem2 : e.m < n := by rcases hma.2.2.2.2.2.2.2 with h1 | h1 <;> omega
      have rkm := h.rk e.m.toNat (by omega) g
      refine ⟨by rw [g]; simp, ⟨a, keep a ha (.inr (.inl (by rw [a2]; exact g))), b, keep b hb (.inl (by rw [b1]; exact g)), a1, a2, b1, b2, hab⟩, fun hg => ?_, fun hg => ?_⟩
      · rw [if_neg hem]
        by_cases e1 : e.f.toNat = v.toNat
        · rw [if_pos e1]; exact rkm.2
        · rw [if_neg e1]; simp [e1] at hg; exact r1 hg
      · rw [if_neg hem]
        by_cases e1 : e.t.toNat = v.toNat
        · rw [if_pos e1]; exact rkm.2
        · rw [if_neg e1]; simp [e1] at hg; exact r2 hg
    · obtain ⟨p, hp, q, hq, _, rfl⟩ := mem_short.1 h'
      obtain ⟨_, _, n1, n2⟩ := hmay _ h'
      obtain ⟨hpL, hpt⟩ := mem_inL.1 hp
      obtain ⟨hqL, hqf⟩ := mem_outL.1 hq
      have m1 := h.okl.may p hpL
      have m2 := h.okl.may q hqL
      have g1 := (h.lg p hpL).1
      have g2 := (h.lg q hqL).2
      have n1' : p.f ≠ v := n1
      have n2' : q.t ≠ v := n2
      have f1 : p.f.toNat ≠ v.toNat := by have := m1.1; omega
      have f2 : q.t.toNat ≠ v.toNat := by have := m2.2.2.1; omega
      refine ⟨by simp, ⟨p, keep p (left_all h hpL) (.inr (.inr (.inr hpt))), q, keep q (left_all h hqL) (.inr (.inr (.inl hqf))), rfl, hpt, hqf, rfl, rfl⟩, fun hg => ?_, fun hg => ?_⟩
      · have : (decide (p.f.toNat = v.toNat) || isGone z.gone p.f.toNat) = true := hg
        rw [g1] at this; simp [f1] at this
      · have : (decide (q.t.toNat = v.toNat) || isGone z.gone q.t.toNat) = true := hg
        rw [g2] at this; simp [f2] at this
end
theorem bld_own {n : Nat} {L : List Arc} (hL : OkL n L) (hw : ∀ e ∈ L, e.w ≤ 20) (hm : ∀ e ∈ L, e.m = -1) (hn : n ≤ 30) : ∀ k, k ≤ n → BOwn n L k (bldN n L k)
  | 0, _ => own_start L hm
  | k + 1, h => own_step (bld_inv hL hw k (by omega)) (bld_own hL hw hm hn k (by omega)) (by omega) (by omega)

theorem len_by' {key : Arc → Int} : ∀ {l : List Arc} {m : Nat}, (∀ a ∈ l, 0 ≤ key a ∧ key a < m) → ((List.range m).map fun v : Nat => (l.filter fun x => decide (key x = (v : Int))).length).sum = l.length
  | [], m, _ => by
    have : ∀ n : Nat, ((List.range n).map fun _ : Nat => (0 : Nat)).sum = 0 := fun n => by induction n with
      | zero => rfl
      | succ n ih => rw [List.range_succ, List.map_append, List.sum_append, ih]; rfl
    simpa using this m
  | a :: l, m, h => by
    have ih := len_by' (key := key) (l := l) (m := m) fun x hx => h x (by simp [hx])
    have ha := h a (by simp)
    have one : ∀ n : Nat, ((List.range n).map fun v : Nat => ((a :: l).filter fun x => decide (key x = (v : Int))).length).sum = ((List.range n).map fun v : Nat => (l.filter fun x => decide (key x = (v : Int))).length).sum + if key a < n then 1 else 0 := fun n => by
      induction n with
      | zero => simp; omega
      | succ n ihn =>
        rw [List.range_succ, List.map_append, List.map_append, List.sum_append, List.sum_append, ihn]
        simp only [List.map_cons, List.map_nil, List.sum_cons, List.sum_nil, Nat.add_zero, List.filter_cons]
        by_cases e : key a = n
        · have e1 : (if key a < (n : Int) then (1 : Nat) else 0) = 0 := if_neg (by omega)
          have e2 : (if key a < ((n + 1 : Nat) : Int) then (1 : Nat) else 0) = 1 := if_pos (by omega)
          have e3 : decide (key a = (n : Int)) = true := by simpa using e
          rw [e1, e2, e3]; simp only [if_true, List.length_cons]; omega
        · have e3 : decide (key a = (n : Int)) = false := by simpa using e
          by_cases e4 : key a < n
          · have e1 : (if key a < (n : Int) then (1 : Nat) else 0) = 1 := if_pos e4
            have e2 : (if key a < ((n + 1 : Nat) : Int) then (1 : Nat) else 0) = 1 := if_pos (by omega)
            rw [e1, e2, e3]; simp only [Bool.false_eq_true, if_false]; omega
          · have e1 : (if key a < (n : Int) then (1 : Nat) else 0) = 0 := if_neg e4
            have e2 : (if key a < ((n + 1 : Nat) : Int) then (1 : Nat) else 0) = 0 := if_neg (by omega)
            rw [e1, e2, e3]; simp only [Bool.false_eq_true, if_false]; omega
    rw [one m, ih, if_pos ha.2]; simp

/-! ### Up, and down -/

/-- The rank that Levels tell. -/
def rankOf (rs : List Int) (v : Int) : Int := if 0 ≤ v ∧ v < rs.length then rs.getD v.toNat 0 else -1
def upL (A : List Arc) (rs : List Int) (v : Int) : List Arc := (outL A v).filter fun e => decide (rankOf rs v < rankOf rs e.t)
def downL (A : List Arc) (rs : List Int) (v : Int) : List Arc := (inL A v).filter fun e => decide (rankOf rs v < rankOf rs e.f)
/-- A row that goes up, told from its end; one that goes down, told from its beginning. -/
inductive UpW (A : List Arc) (rs : List Int) (a : Int) : Int → Int → Prop where
  | nil : UpW A rs a a 0
  | snoc {v d : Int} (e : Arc) (h : UpW A rs a v d) (he : e ∈ A) (hf : e.f = v) (hr : rankOf rs e.f < rankOf rs e.t) : UpW A rs a e.t (d + e.w)
inductive DownW (A : List Arc) (rs : List Int) : Int → Int → Int → Prop where
  | nil (v : Int) : DownW A rs v v 0
  | snoc {u v d : Int} (e : Arc) (h : DownW A rs u v d) (he : e ∈ A) (hf : e.f = v) (hr : rankOf rs e.t < rankOf rs e.f) : DownW A rs u e.t (d + e.w)
theorem UpW.cons {A : List Arc} {rs : List Int} {x w d : Int} (e : Arc) (he : e ∈ A) (hr : rankOf rs e.f < rankOf rs e.t) (ht : e.t = x) (h : UpW A rs x w d) : UpW A rs e.f w (e.w + d) := by
  induction h with
  | nil => rw [Int.add_zero, ← ht]; have := UpW.snoc (a := e.f) e .nil he rfl hr; rwa [Int.zero_add] at this
  | snoc e' _ he' hf' hr' ih => rw [← Int.add_assoc]; exact .snoc e' ih he' hf' hr'
def UD (A : List Arc) (rs : List Int) (a b d : Int) : Prop := ∃ m d1 d2, UpW A rs a m d1 ∧ DownW A rs m b d2 ∧ d1 + d2 ≤ d

theorem Walk.last {n : Nat} {L : List Arc} (hL : OkL n L) {a : Int} : ∀ {b d : Int}, Walk L (-1) a b d → b ≠ a → ∃ e ∈ L, e.f = a ∧ e.t ≠ a ∧ ∃ d', Walk L (-1) e.t b d' ∧ e.w + d' ≤ d := by
  intro b d h
  induction h with
  | nil => intro hb; exact absurd rfl hb
  | @snoc x d e h he hf ht ih =>
    intro hb
    by_cases hx : x = a
    · have := h.pos hL
      exact ⟨e, he, hf.trans hx, hb, 0, .nil, by omega⟩
    · obtain ⟨e1, h1, h2, h3, d', h4, h5⟩ := ih hx
      exact ⟨e1, h1, h2, h3, d' + e.w, .snoc e h4 he hf ht, by omega⟩

/-- To put, then to cut, is as to cut, then to put. -/
theorem cut_put {n : Nat} {L : List Arc} (hL : OkL n L) {v : Int} {xs : List Arc} (hx : ∀ x ∈ xs, x.f ≠ v ∧ x.t ≠ v) : ∀ y ∈ putAll n (cutL L v) xs, y ∈ cutL (putAll n L xs) v := by
  intro y hy
  have hok := putAll_ok (n := n) xs (hL.cut v)
  have hne : y.f ≠ v ∧ y.t ≠ v := by
    rcases putAll_sub _ hy with h | h
    · exact (mem_cutL.1 h).2
    · exact hx y h
  have e1 : findL (cutL L v) y.f y.t = findL L y.f y.t := findL_filter fun x _ e3 e4 => by
    simp only [Bool.and_eq_true, decide_eq_true_eq]
    exact ⟨fun e => hne.1 (by rw [← e3, e]), fun e => hne.2 (by rw [← e4, e])⟩
  have e2 := findL_putAll_same xs (hL.cut v) hL y.f y.t e1
  rw [findL_eq hok.srt hy] at e2
  exact mem_cutL.2 ⟨(findL_some e2.symm).1, hne⟩

section
variable {n : Nat} {L : List Arc} (hL : OkL n L) (hw : ∀ e ∈ L, e.w ≤ 20) (hn : n ≤ 30)
include hL hw hn
omit hn in
theorem bld_later : ∀ j k, k + j ≤ n → ∀ x : Nat, x < n →
    (isGone (bldN n L k).gone x = true → isGone (bldN n L (k + j)).gone x = true ∧ (bldN n L (k + j)).rank.getD x 0 = (bldN n L k).rank.getD x 0) ∧
    (isGone (bldN n L k).gone x = false → isGone (bldN n L (k + j)).gone x = true → (k : Int) ≤ (bldN n L (k + j)).rank.getD x 0)
  | 0, k, _, x, _ => ⟨fun h => ⟨h, rfl⟩, fun h h' => by rw [Nat.add_zero, h] at h'; cases h'⟩
  | j + 1, k, hk, x, hx => by
    obtain ⟨h1, h2⟩ := bld_later j k (by omega) x hx
    have hi := bld_inv hL hw (k + j) (by omega)
    obtain ⟨v0, v1, vg⟩ := bld_first hi (by omega)
    show (_ → isGone (bldStep n (k + j) (bldN n L (k + j))).gone x = true ∧ (bldStep n (k + j) (bldN n L (k + j))).rank.getD x 0 = _) ∧ (_ → isGone (bldStep n (k + j) (bldN n L (k + j))).gone x = true → _ ≤ (bldStep n (k + j) (bldN n L (k + j))).rank.getD x 0)
    unfold bldStep
    generalize firstL n (bldN n L (k + j)).left (bldN n L (k + j)).gone = v at *
    have hlt : v.toNat < (bldN n L (k + j)).gone.length := by rw [hi.gl]; omega
    have hltr : v.toNat < (bldN n L (k + j)).rank.length := by rw [hi.rl]; omega
    simp only [isGone_set hlt, getD_set hltr]
    refine ⟨fun hg => ?_, fun hg hg' => ?_⟩
    · obtain ⟨g1, g2⟩ := h1 hg
      have : x ≠ v.toNat := fun e => by rw [e, vg] at g1; cases g1
      exact ⟨by rw [g1]; simp, by rw [if_neg this, g2]⟩
    · by_cases e : x = v.toNat
      · rw [if_pos e]; omega
      · rw [if_neg e]
        simp [e] at hg'
        exact h2 hg hg'
theorem all_later : ∀ j k, k + j ≤ n → ∀ y ∈ (bldN n L k).all, (isGone (bldN n L k).gone y.f.toNat = true ∨ isGone (bldN n L k).gone y.t.toNat = true) → y ∈ (bldN n L (k + j)).all
  | 0, _, _, _, hy, _ => hy
  | j + 1, k, hk, y, hy, hg => by
    have ih := all_later j k (by omega) y hy hg
    have hi := bld_inv hL hw (k + j) (by omega)
    have hm := hi.oka.may y ih
    refine step_keep hi (by omega) (by omega) ih ?_
    rcases hg with hg | hg
    · exact .inl ((bld_later hL hw j k (by omega) y.f.toNat (by have := hm.1; have := hm.2.1; omega)).1 hg).1
    · exact .inr (.inl ((bld_later hL hw j k (by omega) y.t.toNat (by have := hm.2.2.1; have := hm.2.2.2.1; omega)).1 hg).1)
omit hn in
theorem rank_val {x : Int} (h0 : 0 ≤ x) (h1 : x < n) : rankOf (bldN n L n).rank x = (bldN n L n).rank.getD x.toNat 0 := by
  unfold rankOf
  rw [(bld_inv hL hw n (Nat.le_refl n)).rl, if_pos ⟨h0, h1⟩]
/-- As far as in what is left: up, and then down. -/
theorem bitonic : ∀ j k, k + j = n → ∀ {a b d : Int}, Walk (bldN n L k).left (-1) a b d → 0 ≤ a → a < n → isGone (bldN n L k).gone a.toNat = false → isGone (bldN n L k).gone b.toNat = false → 0 ≤ b → b < n → UD (bldN n L n).all (bldN n L n).rank a b d
  | 0, k, hk, a, b, d, _, a0, a1, ag, _, _, _ => by
    have hk' : k = n := by omega
    subst hk'
    rw [bld_all (bld_inv hL hw k (Nat.le_refl k)) a.toNat (by omega)] at ag; cases ag
  | j + 1, k, hk, a, b, d, hwk, a0, a1, ag, bg, b0, b1 => by
    have hi := bld_inv hL hw k (by omega)
    obtain ⟨v0, v1, vg⟩ := bld_first hi (by omega)
    have hw' : ∀ e ∈ (bldN n L k).left, e.w ≤ 549755813888 := fun e he => by have := hi.wl e he; have := pow_bnd (k := k) (by omega); omega
    have hmay := short_may hi.okl (v := firstL n (bldN n L k).left (bldN n L k).gone) hw' v0 v1
    have ih := fun {a b d : Int} => bitonic j (k + 1) (by omega) (a := a) (b := b) (d := d)
    have hst : bldN n L (k + 1) = bldStep n k (bldN n L k) := rfl
    have hleft : (bldN n L (k + 1)).left = cutL (putAll n (bldN n L k).left (shortL n (bldN n L k).left (firstL n (bldN n L k).left (bldN n L k).gone))) (firstL n (bldN n L k).left (bldN n L k).gone) := rfl
    have hgone : (bldN n L (k + 1)).gone = (bldN n L k).gone.set (firstL n (bldN n L k).left (bldN n L k).gone).toNat true := rfl
    have hrank : (bldN n L (k + 1)).rank = (bldN n L k).rank.set (firstL n (bldN n L k).left (bldN n L k).gone).toNat (k : Int) := rfl
    have keep := fun y hy hg => step_keep hi (by omega) (by omega) (y := y) hy hg
    rw [← hst] at keep
    generalize firstL n (bldN n L k).left (bldN n L k).gone = v at *
    have hlt : v.toNat < (bldN n L k).gone.length := by rw [hi.gl]; omega
    have hltr : v.toNat < (bldN n L k).rank.length := by rw [hi.rl]; omega
    have gset := isGone_set hlt
    have hvg : isGone (bldN n L (k + 1)).gone v.toNat = true := by rw [hgone, gset]; simp
    have hvr : rankOf (bldN n L n).rank v = (k : Int) := by
      rw [rank_val hL hw v0 v1]
      have := ((bld_later hL hw j (k + 1) (by omega) v.toNat (by omega)).1 hvg).2
      rw [show k + 1 + j = n by omega] at this
      rw [this, hrank, getD_set hltr, if_pos rfl]
    have stillg : ∀ x : Int, 0 ≤ x → x ≠ v → isGone (bldN n L k).gone x.toNat = false → isGone (bldN n L (k + 1)).gone x.toNat = false := fun x h0 hx hg => by
      rw [hgone, gset, hg]; simp; omega
    have higher : ∀ x : Int, 0 ≤ x → x < n → x ≠ v → isGone (bldN n L k).gone x.toNat = false → (k : Int) < rankOf (bldN n L n).rank x := fun x h0 h1 hx hg => by
      rw [rank_val hL hw h0 h1]
      have := (bld_later hL hw j (k + 1) (by omega) x.toNat (by omega)).2 (stillg x h0 hx hg)
      rw [show k + 1 + j = n by omega] at this
      have := this (bld_all (bld_inv hL hw n (Nat.le_refl n)) x.toNat (by omega))
      omega
    -- without the number itself
    have away : ∀ {a b d : Int}, Walk (bldN n L k).left (-1) a b d → 0 ≤ a → a < n → a ≠ v → b ≠ v → isGone (bldN n L k).gone a.toNat = false → isGone (bldN n L k).gone b.toNat = false → 0 ≤ b → b < n → UD (bldN n L n).all (bldN n L n).rank a b d := fun {a b d} hwk a0 a1 ha hb ag bg b0 b1 => by
      obtain ⟨d', hd', hw2⟩ := (keeps_to hi.okl hw' v0 v1 ha hwk).1 hb
      have hw3 : Walk (bldN n L (k + 1)).left (-1) a b d' := hw2.mono fun e he hne => by
        rw [hleft]
        exact ⟨cut_put hi.okl (fun x hx => ⟨(hmay x hx).2.2.1, (hmay x hx).2.2.2⟩) e he, hne⟩
      obtain ⟨m, d1, d2, h1, h2, h3⟩ := ih hw3 a0 a1 (stillg a a0 ha ag) (stillg b b0 hb bg) b0 b1
      exact ⟨m, d1, d2, h1, h2, by omega⟩
    have last : ∀ y ∈ (bldN n L k).left, (y.f = v ∨ y.t = v) → y ∈ (bldN n L n).all := fun y hy hv => by
      have h1 := keep y (left_all hi hy) (by rcases hv with h | h; exact .inr (.inr (.inl h)); exact .inr (.inr (.inr h)))
      have := all_later hL hw hn j (k + 1) (by omega) y h1 (by rcases hv with h | h; exact .inl (by rw [h]; exact hvg); exact .inr (by rw [h]; exact hvg))
      rwa [show k + 1 + j = n by omega] at this
    by_cases hav : a = v
    · by_cases hbv : b = v
      · refine ⟨a, 0, 0, .nil, ?_, by have := hwk.pos hi.okl; omega⟩
        rw [hbv, ← hav]; exact .nil a
      · obtain ⟨e, he, hef, het, d', hw2, hd'⟩ := hwk.last hi.okl (by rw [hav]; exact hbv)
        have hm := hi.okl.may e he
        have hg := hi.lg e he
        have hetv : e.t ≠ v := fun e' => het (e'.trans hav.symm)
        obtain ⟨m, d1, d2, h1, h2, h3⟩ := away hw2 hm.2.2.1 hm.2.2.2.1 hetv hbv hg.2 bg b0 b1
        have hup : UpW (bldN n L n).all (bldN n L n).rank e.f m (e.w + d1) := h1.cons e (last e he (.inl (hef.trans hav))) (by rw [hef, hav, hvr]; exact higher e.t hm.2.2.1 hm.2.2.2.1 hetv hg.2) rfl
        rw [hef] at hup
        exact ⟨m, e.w + d1, d2, hup, h2, by omega⟩
    · by_cases hbv : b = v
      · cases hwk with
        | nil => exact absurd hbv hav
        | @snoc x d0 e h he hf ht =>
          have hm := hi.okl.may e he
          have hg := hi.lg e he
          have hxv : e.f ≠ v := by have := hm.2.2.2.2.1; omega
          rw [← hf] at h
          obtain ⟨m, d1, d2, h1, h2, h3⟩ := away h a0 a1 hav hxv ag hg.1 hm.1 hm.2.1
          refine ⟨m, d1, d2 + e.w, h1, .snoc e h2 (last e he (.inr hbv)) rfl (by rw [hbv, hvr]; exact higher e.f hm.1 hm.2.1 hxv hg.1), by omega⟩
      · exact away hwk a0 a1 hav hbv ag bg b0 b1
omit hn in
/-- .. and no nearer. -/
theorem all_back : ∀ k, k ≤ n → ∀ y ∈ (bldN n L k).all, Walk L (-1) y.f y.t y.w
  | 0, _, y, hy => by
    have hy' : y ∈ L := hy
    have := Walk.snoc (a := y.f) y (.nil (L := L) (c := -1)) hy' rfl (by have := (hL.may y hy').2.2.1; omega)
    rwa [Int.zero_add] at this
  | k + 1, hk, y, hy => by
    have hi := bld_inv hL hw k (by omega)
    have ih := all_back k (by omega)
    rcases putAll_sub _ (show y ∈ putAll n _ _ from hy) with h | h
    · exact ih y h
    · obtain ⟨p, hp, q, hq, _, rfl⟩ := mem_short.1 h
      obtain ⟨hpL, hpt⟩ := mem_inL.1 hp
      obtain ⟨hqL, hqf⟩ := mem_outL.1 hq
      have w1 := ih p (left_all hi hpL)
      have w2 := ih q (left_all hi hqL)
      rw [hpt] at w1
      rw [hqf] at w2
      exact w1.trans w2
omit hn in
theorem up_back {a b d : Int} (h : UpW (bldN n L n).all (bldN n L n).rank a b d) : Walk L (-1) a b d := by
  induction h with
  | nil => exact .nil
  | snoc e _ he hf _ ih => rw [← hf] at ih; exact ih.trans (all_back hL hw n (Nat.le_refl n) e he)
omit hn in
theorem down_back {a b d : Int} (h : DownW (bldN n L n).all (bldN n L n).rank a b d) : Walk L (-1) a b d := by
  induction h with
  | nil => exact .nil
  | snoc e _ he hf _ ih => rw [← hf] at ih; exact ih.trans (all_back hL hw n (Nat.le_refl n) e he)
theorem ud_iff {a b : Int} (a0 : 0 ≤ a) (a1 : a < n) (b0 : 0 ≤ b) (b1 : b < n) :
    (∀ d, Walk L (-1) a b d → UD (bldN n L n).all (bldN n L n).rank a b d) ∧ ∀ m d1 d2, UpW (bldN n L n).all (bldN n L n).rank a m d1 → DownW (bldN n L n).all (bldN n L n).rank m b d2 → Walk L (-1) a b (d1 + d2) := by
  have g0 : ∀ v, isGone (List.replicate n false) v = false := fun v => by unfold isGone; rw [List.getD_eq_getElem?_getD, List.getElem?_replicate]; split <;> rfl
  exact ⟨fun d hd => bitonic hL hw hn n 0 (by omega) hd a0 a1 (g0 _) (g0 _) b0 b1, fun m d1 d2 h1 h2 => (up_back hL hw h1).trans (down_back hL hw h2)⟩
end
end Go.Den

/-
  Up by ranks, then down by ranks: each arc but once. No program in sight.
-/
namespace Go.Den
open Go

structure RelSt (n : Nat) (P : Int → Int → Prop) (ok : Arc → Prop) (ds : List Int) : Prop where
  len : ds.length = n
  val : ∀ (w : Nat) (d : Int), ds[w]? = some d → d = -1 ∨ (0 ≤ d ∧ P (w : Int) d ∧ d ≤ met ds * 1099511627776)
  rel : ∀ e, ok e → ∀ x y, ds[e.f.toNat]? = some x → ds[e.t.toNat]? = some y → 0 ≤ x → 0 ≤ y ∧ y ≤ x + e.w
/-- What has been met stays met, and comes nearer. -/
def Nearer (ds ds' : List Int) : Prop := ∀ (w : Nat) (d : Int), ds[w]? = some d → 0 ≤ d → ∃ d', ds'[w]? = some d' ∧ 0 ≤ d' ∧ d' ≤ d
theorem Nearer.refl (ds : List Int) : Nearer ds ds := fun _ d h h0 => ⟨d, h, h0, Int.le_refl _⟩
theorem Nearer.trans {a b c : List Int} (h : Nearer a b) (h' : Nearer b c) : Nearer a c := fun w d hd h0 => by
  obtain ⟨d', h1, h2, h3⟩ := h w d hd h0
  obtain ⟨d'', h4, h5, h6⟩ := h' w d' h1 h2
  exact ⟨d'', h4, h5, by omega⟩
section
variable {n : Nat} {P : Int → Int → Prop} {ok : Arc → Prop} {ds : List Int}
theorem RelSt.same (h : RelSt n P ok ds) {e : Arc} (he : ∀ x y, ds[e.f.toNat]? = some x → ds[e.t.toNat]? = some y → 0 ≤ x → 0 ≤ y ∧ y ≤ x + e.w) : RelSt n P (fun e' => ok e' ∨ e' = e) ds :=
  ⟨h.len, h.val, fun e' he' => by rcases he' with h' | rfl; exact h.rel e' h'; exact he⟩
theorem RelSt.mono (h : RelSt n P ok ds) {ok' : Arc → Prop} (hs : ∀ e, ok' e → ok e) : RelSt n P ok' ds := ⟨h.len, h.val, fun e he => h.rel e (hs e he)⟩
theorem RelSt.bnd (h : RelSt n P ok ds) (hn : n ≤ 512) {w : Nat} {d : Int} (hd : ds[w]? = some d) : -2 < d ∧ d < 1000000000000000 := by
  have hml : met ds ≤ n := h.len ▸ met_le ds
  rcases h.val w d hd with h1 | ⟨h1, _, h3⟩ <;> omega
theorem RelSt.lower (h : RelSt n P ok ds) {e : Arc} (hm : mayA n e) {x y : Int} (hx : ds[e.f.toNat]? = some x) (hy : ds[e.t.toNat]? = some y) (hx0 : 0 ≤ x) (hlt : y < 0 ∨ x + e.w < y)
    (hP : P e.f x → P e.t (x + e.w)) (hok : ∀ e', ok e' → 0 ≤ e'.f ∧ e'.f ≠ e.t) : RelSt n P (fun e' => ok e' ∨ e' = e) (ds.set e.t.toNat (x + e.w)) ∧ Nearer ds (ds.set e.t.toNat (x + e.w)) := by
  obtain ⟨m1, m2, m3, m4, mne, m5, m6, _⟩ := hm
  have hmet := met_set (d := x + e.w) hy (by omega)
  have hml : met ds ≤ n := h.len ▸ met_le ds
  have htl : e.t.toNat < ds.length := by have := h.len; omega
  have ef : ((e.f.toNat : Nat) : Int) = e.f := by omega
  have et : ((e.t.toNat : Nat) : Int) = e.t := by omega
  have hxw : P e.f x ∧ x ≤ met ds * 1099511627776 := by
    rcases h.val _ _ hx with h1 | ⟨_, h2, h3⟩
    · omega
    · rw [ef] at h2; exact ⟨h2, h3⟩
  have hnew : x + e.w ≤ met (ds.set e.t.toNat (x + e.w)) * 1099511627776 := by
    rw [hmet]
    rcases hlt with hlt | hlt
    · rw [if_pos hlt]; have := hxw.2; omega
    · rcases h.val _ _ hy with hy' | ⟨_, _, hy'⟩
      · rw [hy', if_pos (by omega)]; have := hxw.2; omega
      · split <;> omega
  have near : Nearer ds (ds.set e.t.toNat (x + e.w)) := fun w d hd h0 => by
    rw [List.getElem?_set]
    by_cases hw : e.t.toNat = w
    · subst hw
      rw [hy] at hd; cases hd
      rw [if_pos rfl, if_pos htl]
      exact ⟨_, rfl, by omega, by omega⟩
    · rw [if_neg hw]; exact ⟨d, hd, h0, Int.le_refl _⟩
  refine ⟨⟨by rw [List.length_set]; exact h.len, fun w d hd => ?_, fun e' he' x' y' hx' hy' hx0' => ?_⟩, near⟩
  · rw [List.getElem?_set] at hd
    by_cases hw : e.t.toNat = w
    · rw [if_pos hw, if_pos htl] at hd
      cases hd
      subst hw
      rw [et]
      exact .inr ⟨by omega, hP hxw.1, hnew⟩
    · rw [if_neg hw] at hd
      rcases h.val w d hd with h1 | ⟨h1, h2, h3⟩
      · exact .inl h1
      · refine .inr ⟨h1, h2, ?_⟩
        rw [hmet]; split <;> omega
  · rcases he' with he' | rfl
    · obtain ⟨f0, fne⟩ := hok e' he'
      rw [List.getElem?_set, if_neg (by omega)] at hx'
      rw [List.getElem?_set] at hy'
      by_cases hw : e.t.toNat = e'.t.toNat
      · rw [if_pos hw, if_pos htl] at hy'
        cases hy'
        rw [hw] at hy
        have := h.rel e' he' x' y hx' hy hx0'
        omega
      · rw [if_neg hw] at hy'
        exact h.rel e' he' x' y' hx' hy' hx0'
    · rw [List.getElem?_set, if_neg (by omega), hx] at hx'
      cases hx'
      rw [List.getElem?_set, if_pos rfl, if_pos htl] at hy'
      cases hy'
      omega
end

section
variable {n : Nat} {A : List Arc} {rs : List Int} {a : Int}
theorem up_reach {ok : Arc → Prop} {ds : List Int} (h : RelSt n (UpW A rs a) ok ds) (hA : OkL n A) (hok : ∀ e ∈ A, rankOf rs e.f < rankOf rs e.t → ok e) (hsrc : ds[a.toNat]? = some 0) {w d : Int} (hw : UpW A rs a w d) : ∃ d', ds[w.toNat]? = some d' ∧ 0 ≤ d' ∧ d' ≤ d := by
  induction hw with
  | nil => exact ⟨0, hsrc, Int.le_refl _, Int.le_refl _⟩
  | snoc e _ he hf hr ih =>
    obtain ⟨x, hx, hx0, hxd⟩ := ih
    rw [← hf] at hx
    have hm := hA.may e he
    have hy := List.getElem?_eq_getElem (show e.t.toNat < ds.length by have := h.len; have := hm.2.2.1; have := hm.2.2.2.1; omega)
    have := h.rel e (hok e he hr) x _ hx hy hx0
    exact ⟨_, hy, this.1, by omega⟩
/-- What goes up, then down. -/
def UDP (A : List Arc) (rs : List Int) (a w d : Int) : Prop := ∃ m d1 d2, UpW A rs a m d1 ∧ DownW A rs m w d2 ∧ d1 + d2 = d
theorem down_reach {ok ok' : Arc → Prop} {us ds : List Int} (hu : RelSt n (UpW A rs a) ok us) (h : RelSt n (UDP A rs a) ok' ds) (hA : OkL n A) (hoku : ∀ e ∈ A, rankOf rs e.f < rankOf rs e.t → ok e) (hok : ∀ e ∈ A, rankOf rs e.t < rankOf rs e.f → ok' e) (hsrc : us[a.toNat]? = some 0)
    (hnear : Nearer us ds) {m w d1 d2 : Int} (h1 : UpW A rs a m d1) (h2 : DownW A rs m w d2) : ∃ d', ds[w.toNat]? = some d' ∧ 0 ≤ d' ∧ d' ≤ d1 + d2 := by
  induction h2 with
  | nil =>
    obtain ⟨x, hx, hx0, hxd⟩ := up_reach hu hA hoku hsrc h1
    obtain ⟨d', g1, g2, g3⟩ := hnear _ _ hx hx0
    exact ⟨d', g1, g2, by omega⟩
  | snoc e _ he hf hr ih =>
    obtain ⟨x, hx, hx0, hxd⟩ := ih
    rw [← hf] at hx
    have hm := hA.may e he
    have hy := List.getElem?_eq_getElem (show e.t.toNat < ds.length by have := h.len; have := hm.2.2.1; have := hm.2.2.2.1; omega)
    have := h.rel e (hok e he hr) x _ hx hy hx0
    exact ⟨_, hy, this.1, by omega⟩
end
/-- The distances of up-and-down rows are those of the net. -/
theorem updown_dist {n : Nat} {L : List Arc} (hL : OkL n L) (hw : ∀ e ∈ L, e.w ≤ 20) (hn : n ≤ 30) {a : Int} (a0 : 0 ≤ a) (a1 : a < n) {ok ok' : Arc → Prop} {us ds : List Int}
    (hu : RelSt n (UpW (bldN n L n).all (bldN n L n).rank a) ok us) (h : RelSt n (UDP (bldN n L n).all (bldN n L n).rank a) ok' ds)
    (hoku : ∀ e ∈ (bldN n L n).all, rankOf (bldN n L n).rank e.f < rankOf (bldN n L n).rank e.t → ok e) (hok : ∀ e ∈ (bldN n L n).all, rankOf (bldN n L n).rank e.t < rankOf (bldN n L n).rank e.f → ok' e) (hsrc : us[a.toNat]? = some 0) (hnear : Nearer us ds) :
    ∀ (w : Nat) (d : Int), ds[w]? = some d → DistIs L a (w : Int) d := by
  intro w d hd
  have hA := (bld_inv hL hw n (Nat.le_refl n)).oka
  have hwn : w < n := by have := (List.getElem?_eq_some_iff.1 hd).1; have := h.len; omega
  obtain ⟨t1, t2⟩ := ud_iff hL hw hn a0 a1 (b := (w : Int)) (by omega) (by omega)
  have t3 : ∀ k, Walk L (-1) a (w : Int) k → 0 ≤ d ∧ d ≤ k := fun k hk => by
    obtain ⟨m, d1, d2, h1, h2, h3⟩ := t1 k hk
    obtain ⟨d', g1, g2, g3⟩ := down_reach hu h hA hoku hok hsrc hnear h1 h2
    rw [Int.toNat_natCast, hd] at g1
    cases g1
    exact ⟨g2, by omega⟩
  rcases h.val w d hd with h1 | ⟨h1, ⟨m, d1, d2, g1, g2, g3⟩, _⟩
  · exact .inl ⟨h1, fun k hk => by have := (t3 k hk).1; omega⟩
  · refine .inr ⟨h1, ?_, fun k hk => (t3 k hk).2⟩
    rw [← g3]; exact t2 m d1 d2 g1 g2
theorem upL_out (A : List Arc) (rs : List Int) (v : Int) : upL A rs v = outL (A.filter fun e => decide (rankOf rs e.f < rankOf rs e.t)) v := by
  unfold upL outL
  rw [List.filter_filter, List.filter_filter]
  refine List.filter_congr fun e _ => ?_
  by_cases h : e.f = v
  · simp [h]
  · simp [h]
theorem downL_in (A : List Arc) (rs : List Int) (v : Int) : downL A rs v = inL (A.filter fun e => decide (rankOf rs e.t < rankOf rs e.f)) v := by
  unfold downL inL
  rw [List.filter_filter, List.filter_filter]
  refine List.filter_congr fun e _ => ?_
  by_cases h : e.t = v
  · simp [h]
  · simp [h]
theorem filter_two {α : Type} (p q : α → Bool) : ∀ l : List α, (∀ x ∈ l, q x = !p x) → (l.filter p).length + (l.filter q).length = l.length
  | [], _ => rfl
  | x :: l, h => by
    have ih := filter_two p q l fun y hy => h y (by simp [hy])
    have hx := h x (by simp)
    simp only [List.filter_cons]
    cases hp : p x with
    | true => rw [hp] at hx; simp [hx]; omega
    | false => rw [hp] at hx; simp [hx]; omega
/-- Up and down are all arcs, each once. -/
theorem updown_len {n : Nat} {A : List Arc} (hA : OkL n A) (rs : List Int) (hne : ∀ e ∈ A, rankOf rs e.f ≠ rankOf rs e.t) : ((List.range n).map fun v : Nat => (upL A rs (v : Int)).length).sum + ((List.range n).map fun v : Nat => (downL A rs (v : Int)).length).sum = A.length := by
  have h1 : ((List.range n).map fun v : Nat => (upL A rs (v : Int)).length).sum = (A.filter fun e => decide (rankOf rs e.f < rankOf rs e.t)).length := by
    have := len_by' (key := Arc.f) (l := A.filter fun e => decide (rankOf rs e.f < rankOf rs e.t)) (m := n) fun e he => by have := hA.may e (List.mem_filter.1 he).1; exact ⟨this.1, this.2.1⟩
    rw [← this]
    congr 1
    refine List.map_congr_left fun v _ => ?_
    rw [upL_out]; rfl
  have h2 : ((List.range n).map fun v : Nat => (downL A rs (v : Int)).length).sum = (A.filter fun e => decide (rankOf rs e.t < rankOf rs e.f)).length := by
    have := len_by' (key := Arc.t) (l := A.filter fun e => decide (rankOf rs e.t < rankOf rs e.f)) (m := n) fun e he => by have := hA.may e (List.mem_filter.1 he).1; exact ⟨this.2.2.1, this.2.2.2.1⟩
    rw [← this]
    congr 1
    refine List.map_congr_left fun v _ => ?_
    rw [downL_in]; rfl
  rw [h1, h2]
  refine filter_two _ _ A fun e he => ?_
  have := hne e he
  by_cases h : rankOf rs e.f < rankOf rs e.t
  · simp [h]; omega
  · simp [h]; omega
theorem rank_ne {n : Nat} {L : List Arc} (hL : OkL n L) (hw : ∀ e ∈ L, e.w ≤ 20) {x y : Int} (x0 : 0 ≤ x) (x1 : x < n) (y0 : 0 ≤ y) (y1 : y < n) (hne : x ≠ y) : rankOf (bldN n L n).rank x ≠ rankOf (bldN n L n).rank y := by
  have hi := bld_inv hL hw n (Nat.le_refl n)
  rw [rank_val hL hw x0 x1, rank_val hL hw y0 y1]
  intro e
  have := hi.inj x.toNat y.toNat (by omega) (by omega) (bld_all hi _ (by omega)) (bld_all hi _ (by omega)) e
  omega
theorem rank_rng {n : Nat} {L : List Arc} (hL : OkL n L) (hw : ∀ e ∈ L, e.w ≤ 20) {x : Int} (x0 : 0 ≤ x) (x1 : x < n) : 0 ≤ rankOf (bldN n L n).rank x ∧ rankOf (bldN n L n).rank x < n := by
  have hi := bld_inv hL hw n (Nat.le_refl n)
  rw [rank_val hL hw x0 x1]
  exact hi.rk x.toNat (by omega) (bld_all hi _ (by omega))
theorem dist_one {L : List Arc} {a w x y : Int} (hx : DistIs L a w x) (hy : DistIs L a w y) : x = y := by
  rcases hx with ⟨hx, h1⟩ | ⟨hx, h1, h2⟩ <;> rcases hy with ⟨hy, h3⟩ | ⟨hy, h3, h4⟩
  · omega
  · exact absurd h3 (h1 _)
  · exact absurd h1 (h3 _)
  · have := h2 _ h3; have := h4 _ h1; omega
end Go.Den

/-
  From some numbers, over such arcs: how far each number is, and the number ahead of it. No program in sight.
-/
namespace Go.Den
open Go

/-- Rows of such arcs, from some. -/
inductive GW (src : Int → Prop) (nx : Int → List Arc) (en : Arc → Int) : Int → Int → Prop where
  | nil {v : Int} (h : src v) : GW src nx en v 0
  | snoc {v d : Int} (e : Arc) (h : GW src nx en v d) (he : e ∈ nx v) : GW src nx en (en e) (d + e.w)

def LeastIs (P : Int → Prop) (d : Int) : Prop := (d = -1 ∧ ∀ k, ¬ P k) ∨ (0 ≤ d ∧ P d ∧ ∀ k, P k → d ≤ k)
theorem LeastIs.one {P : Int → Prop} {x y : Int} (hx : LeastIs P x) (hy : LeastIs P y) : x = y := by
  rcases hx with ⟨h1, h2⟩ | ⟨h1, h2, h3⟩ <;> rcases hy with ⟨g1, g2⟩ | ⟨g1, g2, g3⟩
  · rw [h1, g1]
  · exact absurd g2 (h2 _)
  · exact absurd h2 (g2 _)
  · have := h3 _ g2; have := g3 _ h2; omega
theorem LeastIs.congr {P P' : Int → Prop} {x : Int} (h : LeastIs P x) (hp : ∀ k, P k ↔ P' k) : LeastIs P' x := by
  rcases h with ⟨h1, h2⟩ | ⟨h1, h2, h3⟩
  · exact .inl ⟨h1, fun k hk => h2 k ((hp k).2 hk)⟩
  · exact .inr ⟨h1, (hp _).1 h2, fun k hk => h3 k ((hp k).2 hk)⟩
def FarIs (n : Nat) (P : Int → Int → Prop) (ds : List Int) : Prop := ds.length = n ∧ ∀ (v : Nat) (d : Int), ds[v]? = some d → LeastIs (P (v : Int)) d
theorem FarIs.one {n : Nat} {P : Int → Int → Prop} {ds es : List Int} (h : FarIs n P ds) (h' : FarIs n P es) : ds = es := by
  apply List.ext_getElem?
  intro v
  by_cases hv : v < n
  · have h1 := List.getElem?_eq_getElem (show v < ds.length by rw [h.1]; exact hv)
    have h2 := List.getElem?_eq_getElem (show v < es.length by rw [h'.1]; exact hv)
    rw [h1, h2, (h.2 v _ h1).one (h'.2 v _ h2)]
  · rw [List.getElem?_eq_none (by rw [h.1]; omega), List.getElem?_eq_none (by rw [h'.1]; omega)]

abbrev BW : Int := 1099511627776
structure NxOk (n : Nat) (src : Int → Prop) (nx : Int → List Arc) (en : Arc → Int) : Prop where
  src : ∀ v, src v → 0 ≤ v ∧ v < n
  arc : ∀ v, ∀ e ∈ nx v, 0 ≤ en e ∧ en e < n ∧ 1 ≤ e.w ∧ e.w ≤ BW
theorem GW.rng {n : Nat} {src : Int → Prop} {nx : Int → List Arc} {en : Arc → Int} (hN : NxOk n src nx en) {v d : Int} (h : GW src nx en v d) : 0 ≤ v ∧ v < n ∧ 0 ≤ d := by
  induction h with
  | nil h => have := hN.src _ h; omega
  | snoc e _ he ih => have := hN.arc _ e he; omega

/-- Where one came from. -/
def BackOk (src : Int → Prop) (nx : Int → List Arc) (en : Arc → Int) (ds : List Int) (v d u : Int) : Prop :=
  (u = -1 ∧ src v ∧ d = 0) ∨ (0 ≤ u ∧ ∃ e c, ds[u.toNat]? = some c ∧ 0 ≤ c ∧ e ∈ nx u ∧ en e = v ∧ c + e.w = d)

structure GInv (n : Nat) (src : Int → Prop) (nx : Int → List Arc) (en : Arc → Int) (ok : Int → Arc → Prop) (ds bs : List Int) (q : List It) (kn : Int → Option Int) : Prop where
  dl : ds.length = n
  bl : bs.length = n
  setl : ∀ (v : Nat) (d : Int), ds[v]? = some d → d = -1 ∨ (0 ≤ d ∧ GW src nx en (v : Int) d ∧ (∀ k, GW src nx en (v : Int) k → d ≤ k) ∧ d + BW ≤ met ds * BW ∧ ∃ u, bs[v]? = some u ∧ BackOk src nx en ds (v : Int) d u)
  qi : ∀ y ∈ q, 0 ≤ y.id ∧ y.id < n ∧ ds[y.id.toNat]? = some (-1) ∧ GW src nx en y.id y.key ∧ y.key ≤ met ds * BW ∧ ∃ u, kn y.id = some u ∧ BackOk src nx en ds y.id y.key u
  fr : ∀ (v : Nat) (d : Int) (e : Arc), ds[v]? = some d → 0 ≤ d → e ∈ nx (v : Int) → ok (v : Int) e → (∃ c, ds[(en e).toNat]? = some c ∧ 0 ≤ c) ∨ ∃ y ∈ q, y.id = en e ∧ y.key ≤ d + e.w
  sr : ∀ v, src v → (∃ d, ds[v.toNat]? = some d ∧ 0 ≤ d) ∨ ∃ y ∈ q, y.id = v ∧ y.key ≤ 0

theorem GInv.mono {n : Nat} {src : Int → Prop} {nx : Int → List Arc} {en : Arc → Int} {ok ok' : Int → Arc → Prop} {ds bs : List Int} {q : List It} {kn : Int → Option Int} (h : GInv n src nx en ok ds bs q kn) (hm : ∀ v e, e ∈ nx v → ok' v e → ok v e) : GInv n src nx en ok' ds bs q kn :=
  ⟨h.dl, h.bl, h.setl, h.qi, fun v d e hd h0 he hok => h.fr v d e hd h0 he (hm _ e he hok), h.sr⟩

section
variable {n : Nat} {src : Int → Prop} {nx : Int → List Arc} {en : Arc → Int} {ok : Int → Arc → Prop} {ds bs : List Int} {q : List It} {kn : Int → Option Int}
theorem GInv.le (h : GInv n src nx en ok ds bs q kn) {v : Nat} {d : Int} (hd : ds[v]? = some d) (h0 : 0 ≤ d) : ∀ k, GW src nx en (v : Int) k → d ≤ k := by
  rcases h.setl v d hd with h1 | ⟨_, _, h1, _⟩
  · omega
  · exact h1
theorem GInv.gw (h : GInv n src nx en ok ds bs q kn) {v : Nat} {d : Int} (hd : ds[v]? = some d) (h0 : 0 ≤ d) : GW src nx en (v : Int) d := by
  rcases h.setl v d hd with h1 | ⟨_, h1, _⟩
  · omega
  · exact h1
theorem GInv.reach (h : GInv n src nx en (fun _ _ => True) ds bs q kn) (hN : NxOk n src nx en) {v d : Int} (hw : GW src nx en v d) : (∃ c, ds[v.toNat]? = some c ∧ 0 ≤ c ∧ c ≤ d) ∨ ∃ y ∈ q, y.key ≤ d := by
  induction hw with
  | nil hs =>
    rcases h.sr _ hs with ⟨c, h1, h2⟩ | ⟨y, hy, _, hk⟩
    · have hr := hN.src _ hs
      exact .inl ⟨c, h1, h2, h.le h1 h2 0 (by rw [show ((Int.toNat _ : Nat) : Int) = _ from Int.toNat_of_nonneg hr.1]; exact .nil hs)⟩
    · exact .inr ⟨y, hy, hk⟩
  | @snoc v d e hw he ih =>
    have hr := hw.rng hN
    have ha := hN.arc _ e he
    have ev : ((v.toNat : Nat) : Int) = v := Int.toNat_of_nonneg hr.1
    have ee : (((en e).toNat : Nat) : Int) = en e := Int.toNat_of_nonneg ha.1
    rcases ih with ⟨c, h1, h2, h3⟩ | ⟨y, hy, hk⟩
    · rcases h.fr v.toNat c e h1 h2 (by rw [ev]; exact he) trivial with ⟨c', h4, h5⟩ | ⟨y, hy, _, hk⟩
      · refine .inl ⟨c', h4, h5, h.le h4 h5 _ ?_⟩
        rw [ee]; exact .snoc e hw he
      · exact .inr ⟨y, hy, by omega⟩
    · exact .inr ⟨y, hy, by omega⟩
theorem BackOk.set {v d u : Int} (h : BackOk src nx en ds v d u) {i : Nat} {x : Int} (hi : ds[i]? = some (-1)) : BackOk src nx en (ds.set i x) v d u := by
  rcases h with h | ⟨h0, e, c, h1, h2, h3⟩
  · exact .inl h
  · refine .inr ⟨h0, e, c, ?_, h2, h3⟩
    rw [List.getElem?_set]
    by_cases ee : i = u.toNat
    · rw [← ee, hi] at h1; cases h1; omega
    · rw [if_neg ee]; exact h1
theorem GInv.pop {x : It} (h : GInv n src nx en (fun _ _ => True) ds bs (x :: q) kn) (hN : NxOk n src nx en) (hs : QSrt (x :: q)) (h1 : One (x :: q)) {u : Int} (hu : kn x.id = some u) :
    GInv n src nx en (fun v _ => v ≠ x.id) (ds.set x.id.toNat x.key) (bs.set x.id.toNat u) q kn ∧ met (ds.set x.id.toNat x.key) = met ds + 1 := by
  obtain ⟨i0, i1, hx, gx, kb, u', hu', bk⟩ := h.qi x (by simp)
  rw [hu] at hu'; cases hu'
  have ex : ((x.id.toNat : Nat) : Int) = x.id := Int.toNat_of_nonneg i0
  have k0 : 0 ≤ x.key := (gx.rng hN).2.2
  have hm : met (ds.set x.id.toNat x.key) = met ds + 1 := by rw [met_set hx k0, if_pos (by omega)]
  have hlt : x.id.toNat < ds.length := by rw [h.dl]; omega
  have hne : ∀ y ∈ q, y.id ≠ x.id := fun y hy e => by
    have := h1 y (by simp [hy]) x (by simp) e
    subst this
    have := (List.pairwise_cons.1 hs).1 y hy
    rw [itlt_iff] at this; omega
  have old : ∀ {v : Nat} {d : Int}, ds[v]? = some d → 0 ≤ d → (ds.set x.id.toNat x.key)[v]? = some d := fun {v d} hd h0 => by
    rw [List.getElem?_set]
    by_cases e : x.id.toNat = v
    · rw [← e, hx] at hd; cases hd; omega
    · rw [if_neg e]; exact hd
  have self : (ds.set x.id.toNat x.key)[x.id.toNat]? = some x.key := by rw [List.getElem?_set, if_pos rfl, if_pos hlt]
  refine ⟨⟨by rw [List.length_set]; exact h.dl, by rw [List.length_set]; exact h.bl, fun v d hd => ?_, fun y hy => ?_, fun v d e hd h0 he hok => ?_, fun v hv => ?_⟩, hm⟩
  · rw [hm]
    by_cases e : x.id.toNat = v
    · subst e
      rw [self] at hd; cases hd
      refine .inr ⟨k0, by rw [ex]; exact gx, fun k hk => ?_, ?_, u, ?_, by rw [ex]; exact bk.set hx⟩
      · rw [ex] at hk
        rcases h.reach hN hk with ⟨c, g1, g2, _⟩ | ⟨y, hy, hyk⟩
        · rw [hx] at g1; cases g1; omega
        · rcases List.mem_cons.1 hy with rfl | hy
          · exact hyk
          · have := (List.pairwise_cons.1 hs).1 y hy
            rw [itlt_iff] at this; omega
      · simp only [BW] at *; omega
      · rw [List.getElem?_set, if_pos rfl, if_pos (by rw [h.bl]; omega)]
    · rw [List.getElem?_set, if_neg e] at hd
      rcases h.setl v d hd with h2 | ⟨h2, h3, h4, h5, w, h6, h7⟩
      · exact .inl h2
      · refine .inr ⟨h2, h3, h4, by simp only [BW] at *; omega, w, ?_, h7.set hx⟩
        rw [List.getElem?_set, if_neg e]; exact h6
  · obtain ⟨a0, a1, a2, a3, a4, w, a5, a6⟩ := h.qi y (by simp [hy])
    refine ⟨a0, a1, ?_, a3, by rw [hm]; simp only [BW] at *; omega, w, a5, a6.set hx⟩
    rw [List.getElem?_set, if_neg (fun e => hne y hy (by omega))]; exact a2
  · have hvx : v ≠ x.id.toNat := fun e => hok (by omega)
    rw [List.getElem?_set, if_neg (fun e => hvx e.symm)] at hd
    rcases h.fr v d e hd h0 he trivial with ⟨c, g1, g2⟩ | ⟨y, hy, g1, g2⟩
    · exact .inl ⟨c, old g1 g2, g2⟩
    · rcases List.mem_cons.1 hy with rfl | hy
      · exact .inl ⟨_, by rw [← g1]; exact self, k0⟩
      · exact .inr ⟨y, hy, g1, g2⟩
  · rcases h.sr v hv with ⟨d, g1, g2⟩ | ⟨y, hy, g1, g2⟩
    · exact .inl ⟨d, old g1 g2, g2⟩
    · rcases List.mem_cons.1 hy with rfl | hy
      · exact .inl ⟨_, by rw [← g1]; exact self, k0⟩
      · exact .inr ⟨y, hy, g1, g2⟩
/-- One that is settled is left as it is. -/
theorem GInv.skip (h : GInv n src nx en ok ds bs q kn) {v : Int} {e : Arc} {c : Int} (hc : ds[(en e).toNat]? = some c) (h0 : 0 ≤ c) : GInv n src nx en (fun v' e' => ok v' e' ∨ (v' = v ∧ e' = e)) ds bs q kn :=
  ⟨h.dl, h.bl, h.setl, h.qi, fun v' d e' hd hd0 he hok => by
    rcases hok with hok | ⟨_, rfl⟩
    · exact h.fr v' d e' hd hd0 he hok
    · exact .inl ⟨c, hc, h0⟩, h.sr⟩
def knP (kn : Int → Option Int) (b : Bool) (t v : Int) : Int → Option Int := if b then fun y => if y = t then some v else kn y else kn
theorem GInv.push (h : GInv n src nx en ok ds bs q kn) (hN : NxOk n src nx en) (h1 : One q) {v : Nat} {d : Int} {e : Arc} (hd : ds[v]? = some d) (h0 : 0 ≤ d) (he : e ∈ nx (v : Int)) (hc : ds[(en e).toNat]? = some (-1)) :
    GInv n src nx en (fun v' e' => ok v' e' ∨ (v' = (v : Int) ∧ e' = e)) ds bs (pushQ q (en e) (d + e.w)).1 (knP kn (pushQ q (en e) (d + e.w)).2 (en e) (v : Int)) := by
  have ha := hN.arc _ e he
  have keep := fun {x : It} hx => push_keep h1 (v := en e) (k := d + e.w) (x := x) hx
  have low := push_low (q := q) (v := en e) (k := d + e.w)
  refine ⟨h.dl, h.bl, h.setl, fun y hy => ?_, fun v' d' e' hd' hd0 he' hok => ?_, fun v' hv' => ?_⟩
  · have hone := push_one h1 (en e) (d + e.w)
    have hmem : y ∈ q ∨ y = ⟨en e, d + e.w⟩ := push_mem hy
    unfold pushQ at hy hone ⊢
    by_cases hl : lowQ q (en e) (d + e.w) = true
    · rw [if_pos hl] at hy ⊢
      exact h.qi y hy
    · rw [if_neg hl] at hy hone ⊢
      have hnew : (⟨en e, d + e.w⟩ : It) ∈ insQ (q.filter fun y => decide (y.id ≠ en e)) ⟨en e, d + e.w⟩ := mem_insQ.2 (.inl rfl)
      by_cases hid : y.id = en e
      · have := hone y hy _ hnew hid
        subst this
        have hb : d + BW ≤ met ds * BW := by
          rcases h.setl v d hd with h2 | ⟨_, _, _, h2, _⟩
          · omega
          · exact h2
        refine ⟨ha.1, ha.2.1, hc, .snoc e (h.gw hd h0) he, by simp only [BW] at *; omega, (v : Int), ?_, .inr ⟨by omega, e, d, ?_, h0, he, rfl, rfl⟩⟩
        · simp [knP]
        · rw [Int.toNat_natCast]; exact hd
      · have hyq : y ∈ q := hmem.resolve_right fun e' => hid (by rw [e'])
        obtain ⟨a0, a1, a2, a3, a4, w, a5, a6⟩ := h.qi y hyq
        refine ⟨a0, a1, a2, a3, a4, w, ?_, a6⟩
        simp only [knP, if_true]
        rw [if_neg hid]; exact a5
  · rcases hok with hok | ⟨hv, rfl⟩
    · rcases h.fr v' d' e' hd' hd0 he' hok with g | ⟨y, hy, g1, g2⟩
      · exact .inl g
      · obtain ⟨y', hy', e1, e2⟩ := keep hy
        exact .inr ⟨y', hy', e1.trans g1, by omega⟩
    · have : v' = v := by omega
      subst this
      rw [hd] at hd'; cases hd'
      exact .inr low
  · rcases h.sr v' hv' with g | ⟨y, hy, g1, g2⟩
    · exact .inl g
    · obtain ⟨y', hy', e1, e2⟩ := keep hy
      exact .inr ⟨y', hy', e1.trans g1, by omega⟩

structure Grown (n : Nat) (src : Int → Prop) (nx : Int → List Arc) (en : Arc → Int) (ds bs : List Int) : Prop where
  far : FarIs n (GW src nx en) ds
  bl : bs.length = n
  back : ∀ (v : Nat) (d : Int), ds[v]? = some d → 0 ≤ d → ∃ u, bs[v]? = some u ∧ BackOk src nx en ds (v : Int) d u
  bnd : ∀ (v : Nat) (d : Int), ds[v]? = some d → -1 ≤ d ∧ d ≤ n * BW
theorem GInv.done (h : GInv n src nx en (fun _ _ => True) ds bs [] kn) (hN : NxOk n src nx en) : Grown n src nx en ds bs := by
  refine ⟨⟨h.dl, fun v d hd => ?_⟩, h.bl, fun v d hd h0 => ?_, fun v d hd => ?_⟩
  · rcases h.setl v d hd with h1 | ⟨h1, h2, h3, _⟩
    · refine .inl ⟨h1, fun k hk => ?_⟩
      rcases h.reach hN hk with ⟨c, g1, g2, _⟩ | ⟨y, hy, _⟩
      · rw [Int.toNat_natCast, hd] at g1; cases g1; omega
      · cases hy
    · exact .inr ⟨h1, h2, h3⟩
  · rcases h.setl v d hd with h1 | ⟨_, _, _, _, h1⟩
    · omega
    · exact h1
  · have hm := met_le ds
    rw [h.dl] at hm
    rcases h.setl v d hd with h1 | ⟨h0, _, _, h1, _⟩
    · simp only [BW]; omega
    · simp only [BW] at *; omega
/-- Before the first: all that one begins with. -/
theorem GInv.start (hN : NxOk n src nx en) {q : List It} {kn : Int → Option Int} (hq : ∀ y ∈ q, y.key = 0 ∧ src y.id ∧ kn y.id = some (-1)) (hs : ∀ v, src v → ∃ y ∈ q, y.id = v) :
    GInv n src nx en (fun _ _ => True) (List.replicate n (-1)) (List.replicate n (-1)) q kn := by
  have rep : ∀ {v : Nat} {d : Int}, (List.replicate n (-1 : Int))[v]? = some d → d = -1 := fun {v d} h => by
    rw [List.getElem?_replicate] at h
    split at h
    · exact (Option.some.inj h).symm
    · cases h
  refine ⟨by simp, by simp, fun v d hd => .inl (rep hd), fun y hy => ?_, fun v d e hd h0 => by have := rep hd; omega, fun v hv => ?_⟩
  · obtain ⟨h1, h2, h3⟩ := hq y hy
    have hr := hN.src _ h2
    refine ⟨hr.1, hr.2, ?_, by rw [h1]; exact .nil h2, by rw [h1]; simp only [BW]; omega, -1, h3, .inl ⟨rfl, h2, h1⟩⟩
    rw [List.getElem?_replicate, if_pos (by omega)]
  · obtain ⟨y, hy, e⟩ := hs v hv
    exact .inr ⟨y, hy, e, by rw [(hq y hy).1]; exact Int.le_refl _⟩
end
/-- Those of some that are there. -/
def inSrc (n : Nat) (fs : List Int) (v : Int) : Prop := v ∈ fs ∧ 0 ≤ v ∧ v < n
end Go.Den

/-
  What a shortcut stands for: a row of the net's own arcs, without a number twice. No program in sight.
-/
namespace Go.Den
open Go

theorem walk_split {L : List Arc} {a b d c : Int} (h : Walk L (-1) a b d) (hac : a ≠ c) : (b ≠ c ∧ Walk L c a b d) ∨ ∃ d1 d2, Walk L (-1) a c d1 ∧ Walk L (-1) c b d2 ∧ d1 + d2 = d := by
  induction h with
  | nil => exact .inl ⟨hac, .nil⟩
  | @snoc x d e h he hf ht ih =>
    by_cases hc : e.t = c
    · refine .inr ⟨d + e.w, 0, ?_, ?_, by omega⟩
      · have := Walk.snoc e h he hf ht
        rwa [hc] at this
      · rw [hc]; exact .nil
    · rcases ih with ⟨_, h1⟩ | ⟨d1, d2, h1, h2, h3⟩
      · exact .inl ⟨hc, .snoc e h1 he hf hc⟩
      · exact .inr ⟨d1, d2 + e.w, h1, .snoc e h2 he hf ht, by omega⟩

section
variable {n : Nat} {L : List Arc} (hL : OkL n L) (hw : ∀ e ∈ L, e.w ≤ 20) (hn : n ≤ 30)
include hL hw hn
/-- All that are left are as far from each other as in the net. -/
theorem left_keep : ∀ k, k ≤ n → ∀ {a b d : Int}, Walk L (-1) a b d → 0 ≤ a → 0 ≤ b → isGone (bldN n L k).gone a.toNat = false → isGone (bldN n L k).gone b.toNat = false → ∃ d', d' ≤ d ∧ Walk (bldN n L k).left (-1) a b d'
  | 0, _, _, _, d, h, _, _, _, _ => ⟨d, Int.le_refl _, h⟩
  | k + 1, hk, a, b, d, h, a0, b0, ag, bg => by
    have hi := bld_inv hL hw k (by omega)
    obtain ⟨v0, v1, vg⟩ := bld_first hi (by omega)
    have hw' : ∀ e ∈ (bldN n L k).left, e.w ≤ 549755813888 := fun e he => by have := hi.wl e he; have := pow_bnd (k := k) (by omega); omega
    have hmay := short_may hi.okl (v := firstL n (bldN n L k).left (bldN n L k).gone) hw' v0 v1
    have ih := left_keep k (by omega) h a0 b0
    have hleft : (bldN n L (k + 1)).left = cutL (putAll n (bldN n L k).left (shortL n (bldN n L k).left (firstL n (bldN n L k).left (bldN n L k).gone))) (firstL n (bldN n L k).left (bldN n L k).gone) := rfl
    have hgone : (bldN n L (k + 1)).gone = (bldN n L k).gone.set (firstL n (bldN n L k).left (bldN n L k).gone).toNat true := rfl
    generalize firstL n (bldN n L k).left (bldN n L k).gone = v at *
    have hlt : v.toNat < (bldN n L k).gone.length := by rw [hi.gl]; omega
    have gset := isGone_set hlt
    rw [hgone, gset] at ag bg
    simp at ag bg
    obtain ⟨d1, h1, w1⟩ := ih ag.2 bg.2
    obtain ⟨d2, h2, w2⟩ := (keeps_to hi.okl hw' v0 v1 (fun e => ag.1 (by rw [e])) w1).1 (fun e => bg.1 (by rw [e]))
    refine ⟨d2, by omega, w2.mono fun e he hne => ?_⟩
    rw [hleft]
    exact ⟨cut_put hi.okl (fun x hx => ⟨(hmay x hx).2.2.1, (hmay x hx).2.2.2⟩) e he, hne⟩
/-- A shortcut's number is on a nearest way. -/
theorem all_via (hmid : ∀ e ∈ L, e.m = -1) : ∀ k, k ≤ n → ∀ e ∈ (bldN n L k).all, 0 ≤ e.m → ∀ d, Walk L (-1) e.f e.t d → ∃ d1 d2, Walk L (-1) e.f e.m d1 ∧ Walk L (-1) e.m e.t d2 ∧ d1 + d2 ≤ d
  | 0, _, e, he, hm, d, h => by
    have := hmid e he
    omega
  | k + 1, hk, e, he, hm, d, h => by
    have hi := bld_inv hL hw k (by omega)
    rcases putAll_sub _ (show e ∈ putAll n _ _ from he) with h' | h'
    · exact all_via hmid k (by omega) e h' hm d h
    · obtain ⟨v0, v1, vg⟩ := bld_first hi (by omega)
      obtain ⟨p, hp, q, hq, hneed, rfl⟩ := mem_short.1 h'
      generalize firstL n (bldN n L k).left (bldN n L k).gone = v at *
      obtain ⟨hpL, hpt⟩ := mem_inL.1 hp
      obtain ⟨hqL, hqf⟩ := mem_outL.1 hq
      have mp := hi.okl.may p hpL
      have mq := hi.okl.may q hqL
      have gp := (hi.lg p hpL).1
      have gq := (hi.lg q hqL).2
      show ∃ d1 d2, Walk L (-1) p.f v d1 ∧ Walk L (-1) v q.t d2 ∧ d1 + d2 ≤ d
      have w1 := all_back hL hw k (by omega) p (left_all hi hpL)
      have w2 := all_back hL hw k (by omega) q (left_all hi hqL)
      rw [hpt] at w1
      rw [hqf] at w2
      obtain ⟨d', hd', wl⟩ := left_keep hL hw hn k (by omega) (a := p.f) (b := q.t) h mp.1 mq.2.2.1 gp gq
      rcases Int.lt_or_le (p.w + q.w) d' with hlt | hle
      · exact ⟨p.w, q.w, w1, w2, by omega⟩
      · have hback : ∀ {a b d : Int}, Walk (bldN n L k).left (-1) a b d → Walk L (-1) a b d := fun {a b d} hh => by
          induction hh with
          | nil => exact .nil
          | snoc y _ hy hf _ ih => rw [← hf] at ih; exact ih.trans (all_back hL hw k (by omega) y (left_all hi hy))
        have hpv : p.f ≠ v := by have := mp.2.2.2.2.1; omega
        rcases walk_split wl hpv with ⟨_, hc⟩ | ⟨d1, d2, h1, h2, h3⟩
        · have hwit := wit_all hi.okl ⟨mp.1, mp.2.1⟩ ⟨mq.2.2.1, mq.2.2.2.1⟩ hpv hc hle
          have := wit_mono (k' := p.w + q.w) (s' := 30) (Int.le_refl _) (by omega) hwit
          unfold needB at hneed
          rw [this] at hneed
          simp at hneed
        · exact ⟨d1, d2, hback h1, hback h2, by omega⟩
end

/-! ### The way that an arc stands for -/

inductive WayIs (A : List Arc) : Int → Int → List Int → Prop where
  | own {e : Arc} (he : e ∈ A) (hm : e.m < 0) : WayIs A e.f e.t [e.f, e.t]
  | cut {e : Arc} {x y : List Int} (he : e ∈ A) (hm : 0 ≤ e.m) (hx : WayIs A e.f e.m x) (hy : WayIs A e.m e.t y) : WayIs A e.f e.t (x ++ y.tail)
inductive Along (L : List Arc) : List Int → Int → Prop where
  | one (v : Int) : Along L [v] 0
  | cons {e : Arc} {f t : Int} {l : List Int} {d : Int} (he : e ∈ L) (hf : e.f = f) (ht : e.t = t) (h : Along L (t :: l) d) : Along L (f :: t :: l) (e.w + d)
theorem Along.nonneg {n : Nat} {L : List Arc} (hL : OkL n L) {l : List Int} {d : Int} (h : Along L l d) : 0 ≤ d := by
  induction h with
  | one => exact Int.le_refl _
  | cons he _ _ _ ih => have := (hL.may _ he).2.2.2.2.2.1; omega
/-- Walks from each to the next. -/
inductive Thru (L : List Arc) : List Int → Int → Prop where
  | one (v : Int) : Thru L [v] 0
  | cons {a b : Int} {l : List Int} {c d : Int} (hne : a ≠ b) (h : Walk L (-1) a b c) (h' : Thru L (b :: l) d) : Thru L (a :: b :: l) (c + d)

structure UnpOk (n : Nat) (L A : List Arc) (R : List Int) : Prop where
  okl : OkL n L
  ok : OkL n A
  own : ∀ y ∈ A, y.m < 0 → y ∈ L
  half : ∀ e ∈ A, 0 ≤ e.m → e.m < n ∧ (∃ a ∈ A, ∃ b ∈ A, a.f = e.f ∧ a.t = e.m ∧ b.f = e.m ∧ b.t = e.t ∧ a.w + b.w = e.w) ∧ rankOf R e.m < rankOf R e.f ∧ rankOf R e.m < rankOf R e.t
  rng : ∀ x : Int, 0 ≤ x → x < n → 0 ≤ rankOf R x
  via : ∀ e ∈ A, 0 ≤ e.m → ∀ d, Walk L (-1) e.f e.t d → ∃ d1 d2, Walk L (-1) e.f e.m d1 ∧ Walk L (-1) e.m e.t d2 ∧ d1 + d2 ≤ d
  back : ∀ y ∈ A, Walk L (-1) y.f y.t y.w

theorem bld_unp {n : Nat} {L : List Arc} (hL : OkL n L) (hw : ∀ e ∈ L, e.w ≤ 20) (hm : ∀ e ∈ L, e.m = -1) (hn : n ≤ 30) : UnpOk n L (bldN n L n).all (bldN n L n).rank := by
  have inv := bld_inv hL hw n (Nat.le_refl n)
  have own := bld_own hL hw hm hn n (Nat.le_refl n)
  refine ⟨hL, inv.oka, own.own, fun e he hm0 => ?_, fun x h0 h1 => (rank_rng hL hw h0 h1).1, all_via hL hw hn hm n (Nat.le_refl n), all_back hL hw n (Nat.le_refl n)⟩
  have hme := inv.oka.may e he
  have hm2 : e.m < n := by rcases hme.2.2.2.2.2.2.2 with h | h <;> omega
  obtain ⟨_, hab, r1, r2⟩ := own.half e he hm0
  refine ⟨hm2, hab, ?_⟩
  rw [rank_val hL hw hm0 hm2, rank_val hL hw hme.1 hme.2.1, rank_val hL hw hme.2.2.1 hme.2.2.2.1]
  have := hme.1
  have := hme.2.2.1
  have := hme.2.1
  have := hme.2.2.2.1
  exact ⟨r1 (bld_all inv _ (by omega)), r2 (bld_all inv _ (by omega))⟩

theorem way_find {A : List Arc} {f t : Int} {l : List Int} (h : WayIs A f t l) : ∃ e ∈ A, e.f = f ∧ e.t = t := by
  cases h with
  | own he _ => exact ⟨_, he, rfl, rfl⟩
  | cut he _ _ _ => exact ⟨_, he, rfl, rfl⟩
theorem way_shape {A : List Arc} {f t : Int} {l : List Int} (h : WayIs A f t l) : ∃ m : List Int, l = f :: (m ++ [t]) := by
  induction h with
  | own he _ => exact ⟨[], rfl⟩
  | @cut e x y he _ _ _ ih1 ih2 =>
    obtain ⟨a, rfl⟩ := ih1
    obtain ⟨b, rfl⟩ := ih2
    refine ⟨a ++ (e.m :: b), ?_⟩
    simp
theorem way_len {A : List Arc} {f t : Int} {l : List Int} (h : WayIs A f t l) : 2 ≤ l.length := by
  obtain ⟨m, rfl⟩ := way_shape h; simp
theorem along_app {L : List Arc} {z : Int} {y : List Int} {d2 : Int} (hy : Along L (z :: y) d2) : ∀ {x : List Int} {f d1 : Int}, Along L (f :: (x ++ [z])) d1 → Along L (f :: (x ++ [z]) ++ y) (d1 + d2)
  | [], f, d1, hx => by
    cases hx with
    | cons he hf ht h =>
      cases h with
      | one => rw [Int.add_zero]; exact .cons he hf ht hy
  | a :: x, f, d1, hx => by
    cases hx with
    | cons he hf ht h =>
      have := along_app hy (x := x) h
      rw [Int.add_assoc]
      exact .cons he hf ht this
theorem thru_app {L : List Arc} {z : Int} {y : List Int} {d2 : Int} (hy : Thru L (z :: y) d2) : ∀ {x : List Int} {f d1 : Int}, Thru L (f :: (x ++ [z])) d1 → Thru L (f :: (x ++ [z]) ++ y) (d1 + d2)
  | [], f, d1, hx => by
    cases hx with
    | cons hne hw h =>
      cases h with
      | one => rw [Int.add_zero]; exact .cons hne hw hy
  | a :: x, f, d1, hx => by
    cases hx with
    | cons hne hw h =>
      have := thru_app hy (x := x) h
      rw [Int.add_assoc]
      exact .cons hne hw this

section
variable {n : Nat} {L A : List Arc} {R : List Int} (H : UnpOk n L A R)
include H
theorem way_uniq {f t : Int} {l : List Int} (h : WayIs A f t l) : ∀ {l' : List Int}, WayIs A f t l' → l = l' := by
  have same : ∀ {e e' : Arc}, e ∈ A → e' ∈ A → e.f = e'.f → e.t = e'.t → e = e' := fun {e e'} he he' h1 h2 => by
    have a1 := findL_eq H.ok.srt he
    have a2 := findL_eq H.ok.srt he'
    rw [← h1, ← h2, a1] at a2
    exact Option.some.inj a2
  induction h with
  | @own e he hm =>
    intro l' h'
    generalize hf : e.f = f at h'
    generalize ht : e.t = t at h'
    cases h' with
    | own he' hm' => rfl
    | cut he' hm' _ _ =>
      have := same he he' hf ht
      subst this; omega
  | @cut e x y he hm hx hy ih1 ih2 =>
    intro l' h'
    generalize hf : e.f = f at h'
    generalize ht : e.t = t at h'
    cases h' with
    | own he' hm' =>
      have := same he he' hf ht
      subst this; omega
    | cut he' hm' hx' hy' =>
      have := same he he' hf ht
      subst this
      rw [ih1 hx', ih2 hy']
theorem way_ex : ∀ (N : Nat) (e : Arc), e ∈ A → (rankOf R e.f < N ∨ rankOf R e.t < N) → ∃ l, WayIs A e.f e.t l
  | 0, e, he, hr => by
    have hm := H.ok.may e he
    have := H.rng e.f hm.1 hm.2.1
    have := H.rng e.t hm.2.2.1 hm.2.2.2.1
    omega
  | N + 1, e, he, hr => by
    by_cases hm : e.m < 0
    · exact ⟨_, .own he hm⟩
    · obtain ⟨h1, ⟨a, ha, b, hb, a1, a2, b1, b2, _⟩, r1, r2⟩ := H.half e he (by omega)
      obtain ⟨x, hx⟩ := way_ex N a ha (.inr (by rw [a2]; omega))
      obtain ⟨y, hy⟩ := way_ex N b hb (.inl (by rw [b1]; omega))
      rw [a1, a2] at hx
      rw [b1, b2] at hy
      exact ⟨_, .cut he (by omega) hx hy⟩
theorem way_of {e : Arc} (he : e ∈ A) : ∃ l, WayIs A e.f e.t l := by
  have hm := H.ok.may e he
  have := H.rng e.f hm.1 hm.2.1
  exact way_ex H ((rankOf R e.f).toNat + 1) e he (.inl (by omega))
theorem way_along {f t : Int} {l : List Int} (h : WayIs A f t l) : ∀ e ∈ A, e.f = f → e.t = t → Along L l e.w := by
  have same : ∀ {e e' : Arc}, e ∈ A → e' ∈ A → e.f = e'.f → e.t = e'.t → e = e' := fun {e e'} he he' h1 h2 => by
    have a1 := findL_eq H.ok.srt he
    have a2 := findL_eq H.ok.srt he'
    rw [← h1, ← h2, a1] at a2
    exact Option.some.inj a2
  induction h with
  | @own e he hm =>
    intro e' he' h1 h2
    have := same he' he h1 h2
    subst this
    have := Along.cons (H.own e' he hm) rfl rfl (.one e'.t)
    rwa [Int.add_zero] at this
  | @cut e x y he hm hx hy ih1 ih2 =>
    intro e' he' h1 h2
    have := same he' he h1 h2
    subst this
    obtain ⟨_, ⟨a, ha, b, hb, a1, a2, b1, b2, hab⟩, _⟩ := H.half e' he hm
    have i1 := ih1 a ha a1 a2
    have i2 := ih2 b hb b1 b2
    obtain ⟨p, rfl⟩ := way_shape hx
    obtain ⟨q, rfl⟩ := way_shape hy
    rw [← hab]
    exact along_app i2 i1
theorem way_thru {f t : Int} {l : List Int} (h : WayIs A f t l) : ∀ d, Walk L (-1) f t d → ∃ d', d' ≤ d ∧ Thru L l d' := by
  induction h with
  | @own e he hm =>
    intro d hd
    refine ⟨d + 0, by omega, .cons ?_ hd (.one _)⟩
    exact (H.ok.may e he).2.2.2.2.1
  | @cut e x y he hm hx hy ih1 ih2 =>
    intro d hd
    obtain ⟨d1, d2, h1, h2, h3⟩ := H.via e he hm d hd
    obtain ⟨c1, k1, t1⟩ := ih1 d1 h1
    obtain ⟨c2, k2, t2⟩ := ih2 d2 h2
    obtain ⟨p, rfl⟩ := way_shape hx
    obtain ⟨q, rfl⟩ := way_shape hy
    exact ⟨c1 + c2, by omega, thru_app t2 t1⟩
omit H in
theorem Walk.pos1 (hL : OkL n L) {c a b d : Int} (h : Walk L c a b d) (hne : a ≠ b) : 1 ≤ d := by
  cases h with
  | nil => exact absurd rfl hne
  | snoc e h he _ _ =>
    have := h.pos hL
    have := (hL.may e he).2.2.2.2.2.1
    omega
omit H in
theorem Thru.pos (hL : OkL n L) {l : List Int} {d : Int} (h : Thru L l d) : 0 ≤ d := by
  induction h with
  | one => exact Int.le_refl _
  | cons hne hw _ ih => have := hw.pos1 hL hne; omega
omit H in
/-- From the first to any of them, and on to the last. -/
theorem Thru.mid (hL : OkL n L) {l : List Int} {d : Int} (h : Thru L l d) : ∀ v t, v ∈ l → l.getLast? = some t → ∃ d1 d2, Walk L (-1) (l.headD 0) v d1 ∧ Walk L (-1) v t d2 ∧ d1 + d2 ≤ d := by
  induction h with
  | one u =>
    intro v t hv ht
    simp at hv ht
    subst hv; subst ht
    exact ⟨0, 0, .nil, .nil, by omega⟩
  | @cons a b l c d hne hw h ih =>
    intro v t hv ht
    have ht' : (b :: l).getLast? = some t := by simpa using ht
    rcases List.mem_cons.1 hv with rfl | hv
    · obtain ⟨d1, d2, h1, h2, h3⟩ := ih b t (by simp) ht'
      have h2' : Walk L (-1) b t d2 := h2
      have := h1.pos hL
      exact ⟨0, c + d2, .nil, hw.trans h2', by omega⟩
    · obtain ⟨d1, d2, h1, h2, h3⟩ := ih v t hv ht'
      exact ⟨c + d1, d2, hw.trans h1, h2, by omega⟩
omit H in
/-- Of least sum, none is met twice. -/
theorem Thru.nodup (hL : OkL n L) {l : List Int} {d : Int} (h : Thru L l d) : ∀ t, l.getLast? = some t → (∀ k, Walk L (-1) (l.headD 0) t k → d ≤ k) → l.Nodup := by
  induction h with
  | one u => intro t _ _; simp
  | @cons a b l c d hne hw h ih =>
    intro t ht hmin
    have ht' : (b :: l).getLast? = some t := by simpa using ht
    have hmin' : ∀ k, Walk L (-1) b t k → d ≤ k := fun k hk => by
      have := hmin (c + k) (hw.trans hk); omega
    rw [List.nodup_cons]
    refine ⟨fun hmem => ?_, ih t ht' hmin'⟩
    obtain ⟨d1, d2, h1, h2, h3⟩ := h.mid hL a t hmem ht'
    have h1' : Walk L (-1) b a d1 := h1
    have := hmin d2 h2
    have := h1'.pos1 hL (fun e => hne e.symm)
    have := hw.pos1 hL hne
    omega
omit H in
theorem least_walk (hL : OkL n L) {a b : Int} : ∀ (N : Nat) {d : Int}, d ≤ N → Walk L (-1) a b d → ∃ e, Walk L (-1) a b e ∧ ∀ k, Walk L (-1) a b k → e ≤ k := by
  intro N
  induction N with
  | zero => intro d hd h; exact ⟨d, h, fun k hk => by have := hk.pos hL; omega⟩
  | succ N ih =>
    intro d hd h
    by_cases hx : ∃ k, Walk L (-1) a b k ∧ k < d
    · obtain ⟨k, hk, hlt⟩ := hx
      exact ih (d := k) (by omega) hk
    · exact ⟨d, h, fun k hk => by
        rcases Int.lt_or_le k d with h' | h'
        · exact absurd ⟨k, hk, h'⟩ hx
        · exact h'⟩
theorem way_mem {f t : Int} {l : List Int} (h : WayIs A f t l) : ∀ v ∈ l, 0 ≤ v ∧ v < n := by
  induction h with
  | @own e he hm =>
    intro v hv
    have := H.ok.may e he
    simp at hv
    rcases hv with rfl | rfl
    · exact ⟨this.1, this.2.1⟩
    · exact ⟨this.2.2.1, this.2.2.2.1⟩
  | cut he hm _ _ ih1 ih2 =>
    intro v hv
    rcases List.mem_append.1 hv with hv | hv
    · exact ih1 v hv
    · exact ih2 v (List.mem_of_mem_tail hv)
theorem way_nodup {f t : Int} {l : List Int} (h : WayIs A f t l) : l.Nodup := by
  obtain ⟨e, he, rfl, rfl⟩ := way_find h
  obtain ⟨d, h1, h2⟩ := least_walk H.okl (e.w.toNat) (by have := (H.ok.may e he).2.2.2.2.2.1; omega) (H.back e he)
  obtain ⟨d', hd', ht⟩ := way_thru H h d h1
  obtain ⟨m, rfl⟩ := way_shape h
  refine ht.nodup H.okl e.t (by rw [← List.cons_append, List.getLast?_append]; simp) fun k hk => ?_
  have := h2 k hk
  omega
/-- A way has at most as many numbers as there are. -/
theorem way_short {f t : Int} {l : List Int} (h : WayIs A f t l) : l.length ≤ n := nodup_len (m := n) (way_nodup H h) (way_mem H h)
end

/-! ### What Unpack, and its rows, tell -/

open Classical in
noncomputable def wayO (A : List Arc) (f t : Int) : Option (List Int) := if h : ∃ l, WayIs A f t l then some (Classical.choose h) else none
theorem wayO_some {n : Nat} {L A : List Arc} {R : List Int} (H : UnpOk n L A R) {f t : Int} {l : List Int} : wayO A f t = some l ↔ WayIs A f t l := by
  unfold wayO
  constructor
  · intro h
    split at h
    · rename_i hx
      have := Classical.choose_spec hx
      rwa [Option.some.inj h] at this
    · cases h
  · intro h
    have hx : ∃ l, WayIs A f t l := ⟨l, h⟩
    rw [dif_pos hx, way_uniq H (Classical.choose_spec hx) h]
theorem wayO_none {n : Nat} {L A : List Arc} {R : List Int} (H : UnpOk n L A R) {f t : Int} (h : findL A f t = none) : wayO A f t = none := by
  cases hw : wayO A f t with
  | none => rfl
  | some l =>
    obtain ⟨e, he, h1, h2⟩ := way_find ((wayO_some H).1 hw)
    have := findL_none h e he
    exact absurd ⟨h1, h2⟩ this
noncomputable def rowT (A : List Arc) : Int → List Int → Option (List Int)
  | _, [] => some []
  | v, b :: r => match wayO A v b with
    | none => none
    | some l => (rowT A b r).map fun z => l.tail ++ z
noncomputable def rowO (A : List Arc) : List Int → Option (List Int)
  | [] => some []
  | a :: r => (rowT A a r).map fun z => a :: z
theorem rowT_len {n : Nat} {L A : List Arc} {R : List Int} (H : UnpOk n L A R) (hn : n ≤ 30) : ∀ {r : List Int} {v : Int} {z : List Int}, rowT A v r = some z → z.length ≤ 30 * r.length
  | [], v, z, h => by
    obtain rfl : [] = z := Option.some.inj h
    simp
  | b :: r, v, z, h => by
    unfold rowT at h
    cases hw : wayO A v b with
    | none => rw [hw] at h; cases h
    | some l =>
      rw [hw] at h
      simp only at h
      cases hr : rowT A b r with
      | none => rw [hr] at h; cases h
      | some y =>
        rw [hr] at h
        obtain rfl : l.tail ++ y = z := Option.some.inj h
        have := rowT_len H hn hr
        have := way_short H ((wayO_some H).1 hw)
        simp; omega
theorem row_len {n : Nat} {L A : List Arc} {R : List Int} (H : UnpOk n L A R) (hn : n ≤ 30) {xs z : List Int} (h : rowO A xs = some z) (hx : xs.length ≤ 1000) : z.length < 1000000 := by
  cases xs with
  | nil => obtain rfl : [] = z := Option.some.inj h; simp
  | cons a r =>
    replace h : (rowT A a r).map (fun z => a :: z) = some z := h
    cases hr : rowT A a r with
    | none => rw [hr] at h; cases h
    | some y =>
      rw [hr] at h
      obtain rfl : a :: y = z := Option.some.inj h
      have := rowT_len H hn hr
      simp at hx ⊢; omega
theorem rowT_snoc {A : List Arc} {v w : Int} {l : List Int} (hw : wayO A v w = some l) : ∀ {r : List Int} {a : Int} {z : List Int}, rowT A a r = some z → (a :: r).getLast? = some v → rowT A a (r ++ [w]) = some (z ++ l.tail)
  | [], a, z, h, hl => by
    obtain rfl : [] = z := Option.some.inj h
    obtain rfl : a = v := by simpa using hl
    show (match wayO A a w with | none => none | some l => (rowT A w []).map fun z => l.tail ++ z) = _
    rw [hw]
    show some (l.tail ++ []) = _
    simp
  | b :: r, a, z, h, hl => by
    have hl' : (b :: r).getLast? = some v := by simpa using hl
    show (match wayO A a b with | none => none | some l => (rowT A b (r ++ [w])).map fun z => l.tail ++ z) = _
    unfold rowT at h
    cases hab : wayO A a b with
    | none => rw [hab] at h; cases h
    | some l2 =>
      rw [hab] at h
      simp only at h
      cases hr : rowT A b r with
      | none => rw [hr] at h; cases h
      | some y =>
        rw [hr] at h
        obtain rfl : l2.tail ++ y = z := Option.some.inj h
        simp only
        rw [rowT_snoc hw hr hl']
        simp
theorem row_snoc {n : Nat} {L A : List Arc} {R : List Int} (H : UnpOk n L A R) {st wt l : List Int} {v w : Int} (h : rowO A st = some wt) (hl : st.getLast? = some v) (hw : WayIs A v w l) : rowO A (st ++ [w]) = some (wt ++ l.tail) := by
  cases st with
  | nil => cases hl
  | cons a r =>
    replace h : (rowT A a r).map (fun z => a :: z) = some wt := h
    cases hr : rowT A a r with
    | none => rw [hr] at h; cases h
    | some y =>
      rw [hr] at h
      obtain rfl : a :: y = wt := Option.some.inj h
      show (rowT A a (r ++ [w])).map _ = _
      rw [rowT_snoc ((wayO_some H).2 hw) hr hl]
      rfl
/-- What is still to be told, the next one first. -/
inductive PendW (A : List Arc) : List (Int × Int) → List Int → Nat → Prop where
  | nil : PendW A [] [] 0
  | cons {f t : Int} {x l : List Int} {k : Nat} {r : List (Int × Int)} (hx : WayIs A f t x) (h : PendW A r l k) : PendW A ((f, t) :: r) (x.tail ++ l) (2 * x.length - 3 + k)
end Go.Den
