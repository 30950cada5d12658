/-
  Arguments that are slices of bools.
-/
import Derived.Test.YtljiijljeipdhaaGreatA4
namespace Go.Den
open Go Go.ChangeShapes Go.WideShapes Go.ChangeAt Go.RowKit Go.Deep

section
variable {H : Type} {enc : TypeId × Value → H} {P : Program} {w : World}
theorem arg_bools {t e : TypeId} {b : Nat} {v : Value} {d : DataW H} {ps : List MemPlace} (ht : P.underlying t = some (.slice e)) (he : P.underlying e = some .bool) (hc : P.cellsOf e = 1)
    (hval : Value.okWide P w .any b t v) (h : DataW.Trod enc P w 0 (fun _ => true) true t v d ps) :
    ∃ (s : Sl) (bs : List Bool), v = .slice s.b s.l s.c ∧ Rd w s 1 (fun b => [Value.bool b]) bs := by
  obtain ⟨a1, len, cap, rfl⟩ := okWide_slice ht hval
  obtain ⟨fuel, hf⟩ := h
  rcases open_slice ht hf with ⟨hcs, hx⟩ | ⟨a, len', cap', k, n, D, Pl, hcs, _, hl, hm, hk, _, hel⟩
  · simp [Value.cells] at hcs
    obtain ⟨rfl, rfl, rfl⟩ := hcs
    exact ⟨⟨none, 0, 0⟩, [], rfl, Rd.nil _ _ _⟩
  · simp [Value.cells] at hcs
    obtain ⟨rfl, rfl, rfl⟩ := hcs
    have hk' : k = cap := by simpa using hk
    have each : ∀ i, i < len → ∃ r : Bool, HoldsAt w (a.add (i * 1)) 0 [Value.bool r] := by
      intro i hi
      obtain ⟨cs, h1, h2⟩ := hel i (by omega)
      rw [hc] at h1
      obtain ⟨_, hlen, hcell⟩ := World.cells?_some h1
      obtain ⟨r, hr, _⟩ := DataW.trod_bool he h2
      refine ⟨r, ?_⟩
      rw [holds_iff]
      intro j v hj
      rw [← hr] at hj
      have hjm : j < 1 := by have := (List.getElem?_eq_some_iff.1 hj).1; omega
      rw [Nat.zero_add, hcell j hjm]; exact hj
    have build : ∀ q, q ≤ len → ∃ rows : List Bool, rows.length = q ∧ ∀ i r, rows[i]? = some r → HoldsAt w (a.add (i * 1)) 0 [Value.bool r] := by
      intro q
      induction q with
      | zero => intro _; exact ⟨[], rfl, by simp⟩
      | succ q ih =>
        intro hq
        obtain ⟨rows, h1, h2⟩ := ih (by omega)
        obtain ⟨r, h4⟩ := each q (by omega)
        refine ⟨rows ++ [r], by simp [h1], fun i r' hi => ?_⟩
        by_cases hiq : i < rows.length
        · rw [List.getElem?_append_left hiq] at hi; exact h2 i r' hi
        · rw [List.getElem?_append_right (by omega)] at hi
          have : i - rows.length = 0 := by have := (List.getElem?_eq_some_iff.1 hi).1; simp at this; omega
          rw [this] at hi
          simp at hi
          subst hi
          have : i = q := by omega
          subst this
          exact h4
    obtain ⟨rows, hlr, hrows⟩ := build len (Nat.le_refl _)
    exact ⟨⟨some a, len, cap⟩, rows, rfl, ⟨hlr.symm, hl, fun i r hi => ⟨a, rfl, hrows i r hi⟩⟩⟩
end
end Go.Den

/-
  Arguments that are slices of anything: their elements' cells; slices of slices of whole numbers.
-/
namespace Go.Den
open Go Go.ChangeShapes Go.WideShapes Go.ChangeAt Go.RowKit Go.Deep

section
variable {H : Type} {enc : TypeId × Value → H} {P : Program} {w : World}
theorem arg_raw {t e : TypeId} {m b : Nat} {v : Value} {d : DataW H} {ps : List MemPlace} (ht : P.underlying t = some (.slice e)) (hc : P.cellsOf e = m)
    (hval : Value.okWide P w .any b t v) (h : DataW.Trod enc P w 0 (fun _ => true) true t v d ps) :
    ∃ (s : Sl) (rows : List (List Value)), v = .slice s.b s.l s.c ∧ Rd w s m (fun r => r) rows ∧ ∀ r ∈ rows, r.length = m ∧ ∃ n y, DataW.trod enc P w 0 (fun _ => true) true n e r = some y := by
  obtain ⟨a1, len, cap, rfl⟩ := okWide_slice ht hval
  obtain ⟨fuel, hf⟩ := h
  rcases open_slice ht hf with ⟨hcs, hx⟩ | ⟨a, len', cap', k, n, D, Pl, hcs, _, hl, hm, hk, _, hel⟩
  · simp [Value.cells] at hcs
    obtain ⟨rfl, rfl, rfl⟩ := hcs
    exact ⟨⟨none, 0, 0⟩, [], rfl, Rd.nil _ _ _, by simp⟩
  · simp [Value.cells] at hcs
    obtain ⟨rfl, rfl, rfl⟩ := hcs
    have hk' : k = cap := by simpa using hk
    have each : ∀ i, i < len → ∃ r : List Value, (r.length = m ∧ ∃ n y, DataW.trod enc P w 0 (fun _ => true) true n e r = some y) ∧ HoldsAt w (a.add (i * m)) 0 r := by
      intro i hi
      obtain ⟨cs, h1, h2⟩ := hel i (by omega)
      rw [hc] at h1
      obtain ⟨_, hlen, hcell⟩ := World.cells?_some h1
      refine ⟨cs, ⟨hlen, n, _, h2⟩, ?_⟩
      rw [holds_iff]
      intro j v hj
      have hjm : j < m := by have := (List.getElem?_eq_some_iff.1 hj).1; omega
      rw [Nat.zero_add, hcell j hjm]; exact hj
    have build : ∀ q, q ≤ len → ∃ rows : List (List Value), rows.length = q ∧ ∀ i r, rows[i]? = some r → (r.length = m ∧ ∃ n y, DataW.trod enc P w 0 (fun _ => true) true n e r = some y) ∧ HoldsAt w (a.add (i * m)) 0 r := by
      intro q
      induction q with
      | zero => intro _; exact ⟨[], rfl, by simp⟩
      | succ q ih =>
        intro hq
        obtain ⟨rows, h1, h2⟩ := ih (by omega)
        obtain ⟨r, h3, h4⟩ := each q (by omega)
        refine ⟨rows ++ [r], by simp [h1], fun i r' hi => ?_⟩
        by_cases hiq : i < rows.length
        · rw [List.getElem?_append_left hiq] at hi; exact h2 i r' hi
        · rw [List.getElem?_append_right (by omega)] at hi
          have : i - rows.length = 0 := by have := (List.getElem?_eq_some_iff.1 hi).1; simp at this; omega
          rw [this] at hi
          simp at hi
          subst hi
          have : i = q := by omega
          subst this
          exact ⟨h3, h4⟩
    obtain ⟨rows, hlr, hrows⟩ := build len (Nat.le_refl _)
    exact ⟨⟨some a, len, cap⟩, rows, rfl, ⟨hlr.symm, hl, fun i r hi => ⟨a, rfl, (hrows i r hi).2⟩⟩, fun r hr => by obtain ⟨i, hi⟩ := List.mem_iff_getElem?.1 hr; exact (hrows i r hi).1⟩
/-- One cell that is a slice of whole numbers. -/
theorem ints_of {t e : TypeId} {n : Nat} {r : List Value} {y : DataW H × List MemPlace} (ht : P.underlying t = some (.slice e)) (he : P.underlying e = some (.int .i64)) (hc : P.cellsOf e = 1) (h : DataW.trod enc P w 0 (fun _ => true) true n t r = some y) :
    ∃ (s : Sl) (xs : List Int), r = [.slice s.b s.l s.c] ∧ Rd w s 1 (fun n => [Value.int .i64 n]) xs := by
  rcases open_ints ht he hc h with ⟨hcs, hx⟩ | ⟨a, len, cap, zs, hcs, _, hl, hm, hz, hx, hcell, hwz⟩
  · exact ⟨⟨none, 0, 0⟩, [], hcs, Rd.nil _ _ _⟩
  · have hz' : zs.length = cap := by simpa using hz
    refine ⟨⟨some a, len, cap⟩, zs.take len, hcs, ⟨by simp; omega, hl, fun i x hi => ⟨a, rfl, ?_⟩⟩⟩
    have hlt : i < (zs.take len).length := (List.getElem?_eq_some_iff.1 hi).1
    have hlt' : i < len ∧ i < zs.length := by simp at hlt; omega
    have hx : zs[i]? = some x := by rw [← hi, List.getElem?_take_of_lt hlt'.1]
    refine ⟨?_, trivial⟩
    rw [add_add, Nat.mul_one, Nat.add_zero, hcell i hlt'.2]
    simp [List.getD, hx]
theorem arg_introws {t e u : TypeId} {b : Nat} {v : Value} {d : DataW H} {ps : List MemPlace} (ht : P.underlying t = some (.slice e)) (hc : P.cellsOf e = 1) (he : P.underlying e = some (.slice u)) (hu : P.underlying u = some (.int .i64)) (hcu : P.cellsOf u = 1)
    (hval : Value.okWide P w .any b t v) (h : DataW.Trod enc P w 0 (fun _ => true) true t v d ps) :
    ∃ (s : Sl) (ss : List Sl) (rows : List (List Int)), v = .slice s.b s.l s.c ∧ Rd w s 1 (fun s => [Value.slice s.b s.l s.c]) ss ∧ ss.length = rows.length ∧ ∀ (i : Nat) x r, ss[i]? = some x → rows[i]? = some r → Rd w x 1 (fun n => [Value.int .i64 n]) r := by
  obtain ⟨s, raw, rfl, hr, hraw⟩ := arg_raw ht hc hval h
  have conv : ∀ raw : List (List Value), (∀ r ∈ raw, r.length = 1 ∧ ∃ n y, DataW.trod enc P w 0 (fun _ => true) true n e r = some y) → ∃ (ss : List Sl) (rows : List (List Int)), raw = ss.map (fun s => [Value.slice s.b s.l s.c]) ∧ ss.length = rows.length ∧
      ∀ (i : Nat) x r, ss[i]? = some x → rows[i]? = some r → Rd w x 1 (fun n => [Value.int .i64 n]) r := by
    intro raw
    induction raw with
    | nil => intro _; exact ⟨[], [], rfl, rfl, by simp⟩
    | cons r raw ih =>
      intro hh
      obtain ⟨_, n, y, hy⟩ := hh r (by simp)
      obtain ⟨s, xs, rfl, hs⟩ := ints_of he hu hcu hy
      obtain ⟨ss, rows, h1, h2, h3⟩ := ih fun r hr => hh r (by simp [hr])
      refine ⟨s :: ss, xs :: rows, by rw [h1]; rfl, by simp [h2], fun i x r hx hr => ?_⟩
      cases i with
      | zero => simp at hx hr; subst hx; subst hr; exact hs
      | succ i => exact h3 i x r (by simpa using hx) (by simpa using hr)
  obtain ⟨ss, rows, h1, h2, h3⟩ := conv raw hraw
  refine ⟨s, ss, rows, rfl, ⟨by rw [hr.len, h1, List.length_map], hr.cap, fun i x hx => ?_⟩, h2, h3⟩
  exact hr.get i [Value.slice x.b x.l x.c] (by rw [h1, List.getElem?_map, hx]; rfl)
end
end Go.Den
