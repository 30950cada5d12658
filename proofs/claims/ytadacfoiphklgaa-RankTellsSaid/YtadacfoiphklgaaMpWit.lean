/-
  What a search tells: whether there is a way, and how far it is. No program in sight.
-/
import Derived.Test.YtadacfoiphklgaaMpDist
namespace Go.Den
open Go

def fndB (s : List It) (to most settle : Int) : Bool := (s.take settle.toNat).any fun x => decide (x.id = to) && decide (x.key ≤ most)
theorem fndB_iff {s : List It} {to most settle : Int} : fndB s to most settle = true ↔ ∃ (i : Nat) (d : Int), (i : Int) < settle ∧ s[i]? = some ⟨to, d⟩ ∧ d ≤ most := by
  unfold fndB
  rw [List.any_eq_true]
  constructor
  · rintro ⟨x, hx, hp⟩
    obtain ⟨i, hi⟩ := List.mem_iff_getElem?.1 hx
    have hlt := (List.getElem?_eq_some_iff.1 hi).1
    rw [List.length_take] at hlt
    rw [List.getElem?_take_of_lt (by omega)] at hi
    obtain ⟨a, b⟩ := x
    simp at hp
    exact ⟨i, b, by omega, by rw [hi, hp.1], hp.2⟩
  · rintro ⟨i, d, h1, h2, h3⟩
    refine ⟨⟨to, d⟩, List.mem_iff_getElem?.2 ⟨i, ?_⟩, by simpa using h3⟩
    rw [List.getElem?_take_of_lt (by omega)]; exact h2
/-- Find's answer. -/
def witB (n : Nat) (L : List Arc) (a to c most settle : Int) : Bool := decide (0 ≤ a ∧ a < n) && (decide (0 ≤ to ∧ to < n) && (decide (a ≠ c) && fndB (settled n L c a) to most settle))
/-- Far's answer. -/
def farO (n : Nat) (L : List Arc) (a to : Int) : Option Int := if (0 ≤ a ∧ a < n) ∧ (0 ≤ to ∧ to < n) then keyQ (settled n L (-1) a) to else none

/-- Whether one stops behind the k-th. -/
def stopF (s : List It) (to settle : Int) (k : Nat) : Bool := (match s[k]? with | some x => decide (x.id = to) | none => false) || decide (settle = (k : Int) + 1)
def foundF (s : List It) (to most : Int) : Nat → Bool
  | 0 => false
  | k + 1 => match s[k]? with | some x => decide (x.id = to) && decide (x.key ≤ most) | none => false
theorem foundF_succ (s : List It) (to most : Int) (k : Nat) : foundF s to most (k + 1) = match s[k]? with | some x => decide (x.id = to) && decide (x.key ≤ most) | none => false := rfl
theorem found_end {s : List It} {to most settle : Int} (h1 : One s) (hd : s.Nodup) (hs : 1 ≤ settle) {m : Nat} (hm : m ≤ s.length) (hst : ∀ j, j + 1 < m → stopF s to settle j = false)
    (hend : (m = s.length ∧ ∀ j, j < m → stopF s to settle j = false) ∨ ∃ j, m = j + 1 ∧ stopF s to settle j = true) : foundF s to most m = fndB s to most settle := by
  have no : ∀ j, stopF s to settle j = false → ∀ x, s[j]? = some x → x.id ≠ to ∧ settle ≠ (j : Int) + 1 := fun j hj x hx => by
    unfold stopF at hj; rw [hx] at hj; simpa using hj
  rw [Bool.eq_iff_iff, fndB_iff]
  rcases hend with ⟨rfl, hno⟩ | ⟨j, rfl, hj⟩
  · constructor
    · intro hf
      cases hl : s.length with
      | zero => rw [hl] at hf; cases hf
      | succ k =>
        rw [hl] at hf
        rw [foundF_succ] at hf
        have hx := List.getElem?_eq_getElem (show k < s.length by omega)
        rw [hx] at hf
        have := (no k (hno k (by omega)) _ hx).1
        simp [this] at hf
    · rintro ⟨i, d, _, hi, _⟩
      have hlt := (List.getElem?_eq_some_iff.1 hi).1
      exact absurd rfl (no i (hno i hlt) _ hi).1
  · have hx := List.getElem?_eq_getElem (show j < s.length by omega)
    have hge : (j : Int) < settle := by
      rcases Int.lt_or_le (j : Int) settle with h | h
      · exact h
      · obtain ⟨i, hi⟩ : ∃ i : Nat, settle = (i : Int) + 1 := ⟨(settle - 1).toNat, by omega⟩
        have hlt : i < s.length := by omega
        exact absurd hi (no i (hst i (by omega)) _ (List.getElem?_eq_getElem hlt)).2
    rw [foundF_succ, hx]
    generalize s[j] = x at hx
    constructor
    · intro hf
      simp at hf
      exact ⟨j, x.key, hge, by rw [hx, ← hf.1], hf.2⟩
    · rintro ⟨i, d, hi, hsi, hdm⟩
      have hij : i = j := by
        rcases Nat.lt_trichotomy i j with h | h | h
        · exact absurd rfl (no i (hst i (by omega)) _ hsi).1
        · exact h
        · -- then it has not stopped at j but by its count
          unfold stopF at hj
          rw [hx] at hj
          simp at hj
          rcases hj with hj | hj
          · have he := h1 x (List.mem_of_getElem? hx) _ (List.mem_of_getElem? hsi) hj
            have hi' := (List.getElem?_eq_some_iff.1 hsi).1
            have hn := List.pairwise_iff_getElem.1 hd j i (by omega) hi' h
            have e1 : s[j]'(by omega) = x := (List.getElem?_eq_some_iff.1 hx).2
            have e2 : s[i] = ⟨to, d⟩ := (List.getElem?_eq_some_iff.1 hsi).2
            rw [e1, e2] at hn
            exact absurd he hn
          · omega
      subst hij
      rw [hsi] at hx; cases hx
      simpa using hdm

section
variable {m : Nat} {L : List Arc} (hL : OkL m L) (c : Int) {a : Int} (ha : 0 ≤ a) (ha' : a < m)
include hL ha ha'
theorem settled_nodup : (settled m L c a).Nodup := by
  have h := (run_inv hL c ha ha' m).dis
  unfold settled
  exact List.Pairwise.imp (fun {x y} h e => h (by rw [e])) (List.pairwise_map.1 h)
theorem settled_One : One (settled m L c a) := fun _ hx _ hy e => settled_one hL c ha ha' hx hy e
end

theorem wit_iff {n : Nat} {L : List Arc} {a to c : Int} (ha : 0 ≤ a ∧ a < n) (ht : 0 ≤ to ∧ to < n) (hac : a ≠ c) (k s : Int) : witB n L a to c k s = true ↔ ∃ (i : Nat) (d : Int), (i : Int) < s ∧ (settled n L c a)[i]? = some ⟨to, d⟩ ∧ d ≤ k := by
  rw [← fndB_iff]
  unfold witB
  rw [decide_eq_true ha, decide_eq_true ht, decide_eq_true hac]; rfl
theorem wit_mono {n : Nat} {L : List Arc} {a to c k s k' s' : Int} (hk : k ≤ k') (hs : s ≤ s') (h : witB n L a to c k s = true) : witB n L a to c k' s' = true := by
  unfold witB at h ⊢
  simp only [Bool.and_eq_true] at h ⊢
  refine ⟨h.1, h.2.1, h.2.2.1, ?_⟩
  obtain ⟨i, d, h1, h2, h3⟩ := fndB_iff.1 h.2.2.2
  exact fndB_iff.2 ⟨i, d, by omega, h2, by omega⟩
theorem wit_self (n : Nat) (L : List Arc) (a to k s : Int) : witB n L a to a k s = false := by
  unfold witB; simp
/-- What is found is no heavier than the way is long. -/
theorem wit_walk {n : Nat} {L : List Arc} (hL : OkL n L) {a to c k s : Int} (ha : 0 ≤ a ∧ a < n) (ht : 0 ≤ to ∧ to < n) (h : witB n L a to c k s = true) : ∃ d, d ≤ k ∧ Walk L c a to d ∧ ∀ d', Walk L c a to d' → d ≤ d' := by
  have hac : a ≠ c := fun e => by subst e; rw [wit_self] at h; cases h
  obtain ⟨i, d, _, h2, h3⟩ := (wit_iff ha ht hac k s).1 h
  exact ⟨d, h3, (settled_dist hL c ha.1 ha.2).1 (List.mem_of_getElem? h2)⟩
theorem wit_all {n : Nat} {L : List Arc} (hL : OkL n L) {a to c k : Int} (ha : 0 ≤ a ∧ a < n) (ht : 0 ≤ to ∧ to < n) (hac : a ≠ c) {d : Int} (hw : Walk L c a to d) (hd : d ≤ k) : witB n L a to c k n = true := by
  obtain ⟨e, he, hm⟩ := settled_reach hL c ha.1 ha.2 hw
  obtain ⟨i, hi⟩ := List.mem_iff_getElem?.1 hm
  have h1 := settled_len hL c ha.1 ha.2
  have h2 := (List.getElem?_eq_some_iff.1 hi).1
  exact (wit_iff ha ht hac k n).2 ⟨i, e, by omega, hi, by omega⟩
theorem far_iff {n : Nat} {L : List Arc} (hL : OkL n L) {a to d : Int} (ha : 0 ≤ a ∧ a < n) (ht : 0 ≤ to ∧ to < n) : farO n L a to = some d ↔ Walk L (-1) a to d ∧ ∀ d', Walk L (-1) a to d' → d ≤ d' := by
  unfold farO
  rw [if_pos ⟨ha, ht⟩, ← settled_dist hL (-1) ha.1 ha.2]
  exact ⟨keyQ_some, fun h => keyQ_mem (settled_One hL (-1) ha.1 ha.2) h⟩
theorem far_reach {n : Nat} {L : List Arc} (hL : OkL n L) {a to d : Int} (ha : 0 ≤ a ∧ a < n) (ht : 0 ≤ to ∧ to < n) (hw : Walk L (-1) a to d) : ∃ e, e ≤ d ∧ farO n L a to = some e := by
  obtain ⟨e, he, hm⟩ := settled_reach hL (-1) ha.1 ha.2 hw
  exact ⟨e, he, (far_iff hL ha ht).2 ((settled_dist hL (-1) ha.1 ha.2).1 hm)⟩
theorem far_bnd {n : Nat} {L : List Arc} (hL : OkL n L) {a to d : Int} (h : farO n L a to = some d) : 0 ≤ d ∧ d ≤ n * 1099511627776 := by
  unfold farO at h
  split at h
  · rename_i hc
    have := settled_bnd hL (-1) hc.1.1 hc.1.2 (keyQ_some h)
    exact ⟨this.1, this.2.1⟩
  · cases h
/-- A distance in what is left is as told. -/
theorem dist_cut {n : Nat} {L : List Arc} (hL : OkL n L) {a c v d : Int} (hac : a ≠ c) (h : DistIs (cutL L c) a v d) : (d = -1 ∧ ∀ k, ¬ Walk L c a v k) ∨ (0 ≤ d ∧ Walk L c a v d ∧ ∀ k, Walk L c a v k → d ≤ k) := by
  rcases h with ⟨h1, h2⟩ | ⟨h1, h2, h3⟩
  · exact .inl ⟨h1, fun k hk => h2 k ((walk_cut hL hac).2 hk)⟩
  · exact .inr ⟨h1, (walk_cut hL hac).1 h2, fun k hk => h3 k ((walk_cut hL hac).2 hk)⟩
end Go.Den
