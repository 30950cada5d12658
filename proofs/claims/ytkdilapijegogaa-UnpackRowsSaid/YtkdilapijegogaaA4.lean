/-
  Arguments that are slices of bools.
-/
import Derived.Test.YtkdilapijegogaaA3
namespace Go.Den
open Go Go.ChangeShapes Go.WideShapes Go.ChangeAt Go.RowKit Go.Deep

section
variable {H : Type} {enc : TypeId × Value → H} {P : Program} {w : World}
theorem arg_bools {t e : TypeId} {b : Nat} {v : Value} {d : DataW H} {ps : List MemPlace} (ht : P.underlying t = some (.slice e)) (he : P.underlying e = some .bool) (hc : P.cellsOf e = 1)
    (hval : Value.okWide P w .any b t v) (h : DataW.Trod enc P w 0 (fun _ => true) true t v d ps) :
    ∃ (s : Sl) (bs : List Bool), v = .slice s.b s.l s.c ∧ Rd w s 1 (fun b => [Value.bool b]) bs := by
  obtain ⟨a1, len, cap, rfl⟩ := okWide_slice ht hval
  obtain ⟨fuel, hf⟩ := h
  rcases open_slice ht hf with ⟨hcs, hx⟩ | ⟨a, len', cap', k, n, D, Pl, hcs, _, hl, hm, hk, _, hel⟩
  · simp [Value.cells] at hcs
    obtain ⟨rfl, rfl, rfl⟩ := hcs
    exact ⟨⟨none, 0, 0⟩, [], rfl, Rd.nil _ _ _⟩
  · simp [Value.cells] at hcs
    obtain ⟨rfl, rfl, rfl⟩ := hcs
    have hk' : k = cap := by simpa using hk
    have each : ∀ i, i < len → ∃ r : Bool, HoldsAt w (a.add (i * 1)) 0 [Value.bool r] := by
      intro i hi
      obtain ⟨cs, h1, h2⟩ := hel i (by omega)
      rw [hc] at h1
      obtain ⟨_, hlen, hcell⟩ := World.cells?_some h1
      obtain ⟨r, hr, _⟩ := DataW.trod_bool he h2
      refine ⟨r, ?_⟩
      rw [holds_iff]
      intro j v hj
      rw [← hr] at hj
      have hjm : j < 1 := by have := (List.getElem?_eq_some_iff.1 hj).1; omega
      rw [Nat.zero_add, hcell j hjm]; exact hj
    have build : ∀ q, q ≤ len → ∃ rows : List Bool, rows.length = q ∧ ∀ i r, rows[i]? = some r → HoldsAt w (a.add (i * 1)) 0 [Value.bool r] := by
      intro q
      induction q with
      | zero => intro _; exact ⟨[], rfl, by simp⟩
      | succ q ih =>
        intro hq
        obtain ⟨rows, h1, h2⟩ := ih (by omega)
        obtain ⟨r, h4⟩ := each q (by omega)
        refine ⟨rows ++ [r], by simp [h1], fun i r' hi => ?_⟩
        by_cases hiq : i < rows.length
        · rw [List.getElem?_append_left hiq] at hi; exact h2 i r' hi
        · rw [List.getElem?_append_right (by omega)] at hi
          have : i - rows.length = 0 := by have := (List.getElem?_eq_some_iff.1 hi).1; simp at this; omega
          rw [this] at hi
          simp at hi
          subst hi
          have : i = q := by omega
          subst this
          exact h4
    obtain ⟨rows, hlr, hrows⟩ := build len (Nat.le_refl _)
    exact ⟨⟨some a, len, cap⟩, rows, rfl, ⟨hlr.symm, hl, fun i r hi => ⟨a, rfl, hrows i r hi⟩⟩⟩
end
end Go.Den
