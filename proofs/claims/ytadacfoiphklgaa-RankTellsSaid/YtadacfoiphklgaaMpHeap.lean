/-
  A heap in a row: what rises, and what sinks. No program in sight.
-/
import Derived.Test.YtadacfoiphklgaaMpSeek
namespace Go.Den
open Go

def Edge (zs : List It) (k j : Nat) : Prop := ∀ x y, zs[k]? = some x → zs[j]? = some y → itlt y x = false
def HOk (zs : List It) : Prop := ∀ j, 0 < j → Edge zs ((j - 1) / 2) j
structure UpI (zs : List It) (i : Nat) : Prop where
  rest : ∀ j, 0 < j → j ≠ i → Edge zs ((j - 1) / 2) j
  over : ∀ j, 0 < j → (j - 1) / 2 = i → 0 < i → Edge zs ((i - 1) / 2) j
structure DownI (zs : List It) (i : Nat) : Prop where
  rest : ∀ j, 0 < j → (j - 1) / 2 ≠ i → Edge zs ((j - 1) / 2) j
  over : ∀ j, 0 < j → (j - 1) / 2 = i → 0 < i → Edge zs ((i - 1) / 2) j

theorem le_trans' {x y z : It} (h : itlt y x = false) (h' : itlt z y = false) : itlt z x = false := by
  have h1 : ¬ itlt y x = true := by rw [h]; simp
  have h2 : ¬ itlt z y = true := by rw [h']; simp
  have : ¬ itlt z x = true := by rw [itlt_iff] at *; omega
  simpa using this
theorem lt_le {x y : It} (h : itlt x y = true) : itlt y x = false := by
  have : ¬ itlt y x = true := by rw [itlt_iff] at *; omega
  simpa using this
theorem le_anti {x y : It} (h : itlt x y = false) (h' : itlt y x = false) : x = y := by
  rcases itlt_tri x y with h1 | h1 | h1
  · rw [h] at h1; cases h1
  · exact h1
  · rw [h'] at h1; cases h1
theorem itlt_irr (x : It) : itlt x x = false := by
  have : ¬ itlt x x = true := by rw [itlt_iff]; omega
  simpa using this

theorem sw_get {zs : List It} {i p : Nat} (hi : i < zs.length) (hp : p < zs.length) (x y : It) (j : Nat) : ((zs.set i y).set p x)[j]? = if j = p then some x else if j = i then some y else zs[j]? := by
  rw [List.getElem?_set, List.getElem?_set]
  by_cases h1 : j = p
  · subst h1; simp [hp]
  · rw [if_neg (fun e => h1 e.symm), if_neg h1]
    by_cases h2 : j = i
    · subst h2; simp [hi]
    · rw [if_neg (fun e => h2 e.symm), if_neg h2]
theorem sw_mem {zs : List It} {i p : Nat} {x y : It} (hx : zs[i]? = some x) (hy : zs[p]? = some y) (u : It) : u ∈ (zs.set i y).set p x ↔ u ∈ zs := by
  have hi := (List.getElem?_eq_some_iff.1 hx).1
  have hp := (List.getElem?_eq_some_iff.1 hy).1
  rw [List.mem_iff_getElem?, List.mem_iff_getElem?]
  constructor
  · rintro ⟨j, hj⟩
    rw [sw_get hi hp] at hj
    split at hj
    · exact ⟨i, hx.trans hj⟩
    · split at hj
      · exact ⟨p, hy.trans hj⟩
      · exact ⟨j, hj⟩
  · rintro ⟨j, hj⟩
    by_cases h1 : j = p
    · subst h1
      by_cases h2 : j = i
      · subst h2; exact ⟨j, by rw [sw_get hi hp, if_pos rfl, ← hx, hj]⟩
      · exact ⟨i, by rw [sw_get hi hp, if_neg (fun e => h2 e.symm), if_pos rfl, ← hy, hj]⟩
    · by_cases h2 : j = i
      · subst h2; exact ⟨p, by rw [sw_get hi hp, if_pos rfl, ← hx, hj]⟩
      · exact ⟨j, by rw [sw_get hi hp, if_neg h1, if_neg h2, hj]⟩

theorem up_step {zs : List It} {i : Nat} {x y : It} (h : UpI zs i) (hi0 : 0 < i) (hx : zs[i]? = some x) (hy : zs[(i - 1) / 2]? = some y) (hlt : itlt x y = true) : UpI ((zs.set i y).set ((i - 1) / 2) x) ((i - 1) / 2) := by
  have hi := (List.getElem?_eq_some_iff.1 hx).1
  have hp := (List.getElem?_eq_some_iff.1 hy).1
  have hpi : (i - 1) / 2 < i := by omega
  have hxy := lt_le hlt
  generalize hpe : (i - 1) / 2 = p at *
  refine ⟨fun j hj hjp u v hu hv => ?_, fun j hj hjp hp0 u v hu hv => ?_⟩
  · rw [sw_get hi hp] at hu hv
    rw [if_neg hjp] at hv
    by_cases hji : j = i
    · subst hji
      rw [if_pos rfl] at hv
      rw [if_pos hpe] at hu
      cases hv; cases hu
      exact hxy
    · rw [if_neg hji] at hv
      by_cases h1 : (j - 1) / 2 = p
      · rw [if_pos h1] at hu
        cases hu
        exact le_trans' hxy (h.rest j hj hji y v (by rw [h1]; exact hy) hv)
      · rw [if_neg h1] at hu
        by_cases h2 : (j - 1) / 2 = i
        · rw [if_pos h2] at hu
          cases hu
          exact h.over j hj h2 hi0 y v (by rw [hpe]; exact hy) hv
        · rw [if_neg h2] at hu
          exact h.rest j hj hji u v hu hv
  · rw [sw_get hi hp] at hu hv
    rw [if_neg (by omega), if_neg (by omega)] at hu
    have hup : itlt y u = false := h.rest p hp0 (by omega) u y hu hy
    rw [if_neg (by omega)] at hv
    by_cases hji : j = i
    · rw [if_pos hji] at hv; cases hv; exact hup
    · rw [if_neg hji] at hv
      exact le_trans' hup (h.rest j hj hji y v (by rw [hjp]; exact hy) hv)
theorem up_end {zs : List It} {i : Nat} {x : It} (h : UpI zs i) (hx : zs[i]? = some x) (he : i = 0 ∨ ∃ y, zs[(i - 1) / 2]? = some y ∧ itlt x y = false) : HOk zs := by
  intro j hj
  by_cases hji : j = i
  · subst hji
    rcases he with rfl | ⟨y, hy, hn⟩
    · omega
    · intro u v hu hv
      rw [hy] at hu; rw [hx] at hv; cases hu; cases hv
      exact hn
  · exact h.rest j hj hji
theorem down_step {zs : List It} {i k : Nat} {x y : It} (h : DownI zs i) (hk0 : 0 < k) (hki : (k - 1) / 2 = i) (hx : zs[i]? = some x) (hy : zs[k]? = some y) (hlt : itlt y x = true)
    (hmin : ∀ s, 0 < s → (s - 1) / 2 = i → ∀ v, zs[s]? = some v → itlt v y = false) : DownI ((zs.set i y).set k x) k := by
  have hi := (List.getElem?_eq_some_iff.1 hx).1
  have hk := (List.getElem?_eq_some_iff.1 hy).1
  have hyx := lt_le hlt
  refine ⟨fun j hj hjk u v hu hv => ?_, fun j hj hjk hk0' u v hu hv => ?_⟩
  · rw [sw_get hi hk] at hu hv
    rw [if_neg hjk] at hu
    by_cases h1 : j = k
    · subst h1
      rw [if_pos rfl] at hv
      rw [if_pos hki] at hu
      cases hu; cases hv
      exact hyx
    · rw [if_neg h1] at hv
      by_cases h2 : j = i
      · subst h2
        rw [if_pos rfl] at hv
        cases hv
        rw [if_neg (by omega)] at hu
        exact h.over k hk0 hki (by omega) u y hu hy
      · rw [if_neg h2] at hv
        by_cases h3 : (j - 1) / 2 = i
        · rw [if_pos h3] at hu
          cases hu
          exact hmin j hj h3 v hv
        · rw [if_neg h3] at hu
          exact h.rest j hj h3 u v hu hv
  · rw [sw_get hi hk] at hu hv
    rw [hki, if_neg (by omega), if_pos rfl] at hu
    cases hu
    rw [if_neg (by omega), if_neg (by omega)] at hv
    exact h.rest j hj (by omega) y v (by rw [hjk]; exact hy) hv
theorem down_end {zs : List It} {i : Nat} {x : It} (h : DownI zs i) (hx : zs[i]? = some x) (hmin : ∀ s, 0 < s → (s - 1) / 2 = i → ∀ v, zs[s]? = some v → itlt v x = false) : HOk zs := by
  intro j hj
  by_cases h1 : (j - 1) / 2 = i
  · intro u v hu hv
    rw [h1, hx] at hu; cases hu
    exact hmin j hj h1 v hv
  · exact h.rest j hj h1
/-- The first one is the least. -/
theorem HOk.min {zs : List It} (h : HOk zs) {r : It} (hr : zs[0]? = some r) : ∀ (j : Nat) (u : It), zs[j]? = some u → itlt u r = false := by
  intro j
  induction j using Nat.strongRecOn with
  | ind j ih =>
    intro u hu
    by_cases hj : j = 0
    · subst hj; rw [hr] at hu; cases hu; exact itlt_irr _
    · have hlt := (List.getElem?_eq_some_iff.1 hu).1
      have hp : (j - 1) / 2 < zs.length := by omega
      exact le_trans' (ih ((j - 1) / 2) (by omega) _ (List.getElem?_eq_getElem hp)) (h j (by omega) _ u (List.getElem?_eq_getElem hp) hu)

/-- The row's own, and the numbers' places. -/
structure Places (f : Int → Option Int) (zs : List It) (i : Nat) : Prop where
  at_ : ∀ (j : Nat) (z : It), j ≠ i → zs[j]? = some z → f z.id = some (j : Int)
  dom : ∀ v k, f v = some k → ∃ z ∈ zs, z.id = v
structure PlacesAll (f : Int → Option Int) (zs : List It) : Prop where
  at_ : ∀ (j : Nat) z, zs[j]? = some z → f z.id = some (j : Int)
  dom : ∀ v k, f v = some k → ∃ z ∈ zs, z.id = v
theorem PlacesAll.one {f : Int → Option Int} {zs : List It} (h : PlacesAll f zs) : One zs := by
  intro x hx y hy e
  obtain ⟨i, hi⟩ := List.mem_iff_getElem?.1 hx
  obtain ⟨j, hj⟩ := List.mem_iff_getElem?.1 hy
  have h1 := h.at_ i x hi
  have h2 := h.at_ j y hj
  rw [e, h2] at h1
  have : j = i := by have := Option.some.inj h1; omega
  subst this
  rw [hi] at hj; exact Option.some.inj hj
theorem Places.swap {f : Int → Option Int} {zs : List It} {i p : Nat} (h : Places f zs i) {x y : It} (hx : zs[i]? = some x) (hy : zs[p]? = some y) (hip : i ≠ p) : Places (fun v => if v = y.id then some (i : Int) else f v) ((zs.set i y).set p x) p := by
  have hi := (List.getElem?_eq_some_iff.1 hx).1
  have hp := (List.getElem?_eq_some_iff.1 hy).1
  refine ⟨fun j z hj hz => ?_, fun v k hv => ?_⟩
  · rw [sw_get hi hp, if_neg hj] at hz
    by_cases h1 : j = i
    · rw [if_pos h1] at hz; cases hz; simp [h1]
    · rw [if_neg h1] at hz
      have h2 := h.at_ j z h1 hz
      have : z.id ≠ y.id := fun e => by
        have h3 := h.at_ p y (Ne.symm hip) hy
        rw [← e, h2] at h3
        have := Option.some.inj h3; omega
      simp [this, h2]
  · replace hv : (if v = _ then _ else f v) = some k := hv
    by_cases h1 : v = y.id
    · exact ⟨y, (sw_mem hx hy y).2 (List.mem_of_getElem? hy), h1.symm⟩
    · rw [if_neg h1] at hv
      obtain ⟨z, hz, e⟩ := h.dom v k hv
      exact ⟨z, (sw_mem hx hy z).2 hz, e⟩
theorem Places.done {f : Int → Option Int} {zs : List It} {i : Nat} (h : Places f zs i) {x : It} (hx : zs[i]? = some x) (hnd : ∀ (j : Nat) (z : It), j ≠ i → zs[j]? = some z → z.id ≠ x.id) : PlacesAll (fun v => if v = x.id then some (i : Int) else f v) zs := by
  refine ⟨fun j z hz => ?_, fun v k hv => ?_⟩
  · by_cases h1 : j = i
    · subst h1; rw [hx] at hz; cases hz; simp
    · have := h.at_ j z h1 hz
      simp [hnd j z h1 hz, this]
  · replace hv : (if v = _ then _ else f v) = some k := hv
    by_cases h1 : v = x.id
    · exact ⟨x, List.mem_of_getElem? hx, h1.symm⟩
    · rw [if_neg h1] at hv; exact h.dom v k hv
/-- No number stands at two places. -/
def Apart (zs : List It) : Prop := ∀ (i j : Nat) (x y : It), zs[i]? = some x → zs[j]? = some y → x.id = y.id → i = j
theorem Apart.one {zs : List It} (h : Apart zs) : One zs := by
  intro x hx y hy e
  obtain ⟨i, hi⟩ := List.mem_iff_getElem?.1 hx
  obtain ⟨j, hj⟩ := List.mem_iff_getElem?.1 hy
  have := h i j x y hi hj e
  subst this
  rw [hi] at hj; exact Option.some.inj hj
theorem PlacesAll.apart {f : Int → Option Int} {zs : List It} (h : PlacesAll f zs) : Apart zs := by
  intro i j x y hi hj e
  have h1 := h.at_ i x hi
  have h2 := h.at_ j y hj
  rw [e, h2] at h1
  have := Option.some.inj h1; omega
theorem Apart.swap {zs : List It} (h : Apart zs) {i p : Nat} {x y : It} (hx : zs[i]? = some x) (hy : zs[p]? = some y) : Apart ((zs.set i y).set p x) := by
  have hi := (List.getElem?_eq_some_iff.1 hx).1
  have hp := (List.getElem?_eq_some_iff.1 hy).1
  have back : ∀ (j : Nat) (u : It), ((zs.set i y).set p x)[j]? = some u → ∃ j', zs[j']? = some u ∧ ((j = p ∧ j' = i) ∨ (j ≠ p ∧ j = i ∧ j' = p) ∨ (j ≠ p ∧ j ≠ i ∧ j' = j)) := by
    intro j u hu
    rw [sw_get hi hp] at hu
    by_cases h1 : j = p
    · rw [if_pos h1] at hu; exact ⟨i, hx.trans hu, .inl ⟨h1, rfl⟩⟩
    · rw [if_neg h1] at hu
      by_cases h2 : j = i
      · rw [if_pos h2] at hu; exact ⟨p, hy.trans hu, .inr (.inl ⟨h1, h2, rfl⟩)⟩
      · rw [if_neg h2] at hu; exact ⟨j, hu, .inr (.inr ⟨h1, h2, rfl⟩)⟩
  intro a b u v hu hv e
  obtain ⟨a', ha, hac⟩ := back a u hu
  obtain ⟨b', hb, hbc⟩ := back b v hv
  have := h a' b' u v ha hb e
  omega
end Go.Den
