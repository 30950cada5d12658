/-
  Arguments that are slices of structs or arrays of whole numbers.
-/
import Derived.Test.YtadacfoiphklgaaMpRow
import Derived.Deep.Slices
namespace Go.Den
open Go Go.ChangeShapes Go.WideShapes Go.ChangeAt Go.RowKit Go.Deep

/-- Is the cell 'i' of a type a whole number of 64 bits? -/
def leaf64 (P : Program) : Nat → TypeId → Nat → Bool
  | 0, _, _ => false
  | d + 1, t, i => match P.underlying t with
    | some (.int .i64) => Nat.beq i 0
    | some (.struct fs) => fs.toList.any fun f => Nat.ble f.offset i && Nat.blt i (f.offset + P.cellsOf f.type) && leaf64 P d f.type (i - f.offset)
    | some (.array n e) => Nat.blt 0 (P.cellsOf e) && Nat.blt (i / P.cellsOf e) n && leaf64 P d e (i % P.cellsOf e)
    | _ => false
def leaves64 (P : Program) (t : TypeId) (n : Nat) : Bool := allLt (fun i => leaf64 P 5 t i) n

theorem mapM_each {α β : Type} {f : α → Option β} : ∀ {l : List α} {ys : List β}, l.mapM f = some ys → ∀ x ∈ l, ∃ y, f x = some y
  | [], _, _, x, hx => by cases hx
  | a :: l, ys, h, x, hx => by
    simp only [List.mapM_cons, Option.bind_eq_bind, Option.pure_def] at h
    cases ha : f a with
    | none => simp [ha] at h
    | some y =>
      cases hl : l.mapM f with
      | none => simp [ha, hl] at h
      | some zs =>
        rcases List.mem_cons.1 hx with e | hx
        · subst e; exact ⟨y, ha⟩
        · exact mapM_each hl x hx

section
variable {H : Type} {enc : TypeId × Value → H} {P : Program} {w : World} {base : Nat} {spare : Nat → Bool} {held : Bool}

theorem leaf64_spec : ∀ (d : Nat) {fuel : Nat} {t : TypeId} {cs : List Value} {x : DataW H × List MemPlace} {i : Nat}, leaf64 P d t i = true → DataW.trod enc P w base spare held fuel t cs = some x → ∃ n : Int, cs[i]? = some (.int .i64 n)
  | 0, _, _, _, _, _, h, _ => by simp [leaf64] at h
  | d + 1, 0, _, _, _, _, _, hx => by simp [DataW.trod] at hx
  | d + 1, fuel + 1, t, cs, x, i, h, hx => by
    unfold leaf64 at h
    cases hu : P.underlying t with
    | none => rw [hu] at h; cases h
    | some u =>
      rw [hu] at h
      cases u
      case int k =>
        cases k <;> try (cases h; done)
        obtain ⟨n, hc, _, _⟩ := DataW.trod_int hu hx
        have hi : i = 0 := Nat.eq_of_beq_eq_true h
        subst hi
        exact ⟨n, by rw [hc]; rfl⟩
      case struct fs =>
        have hx' : (if cs.length = P.cellsOf t then (fs.toList.mapM fun f => DataW.trod enc P w base spare held fuel f.type ((cs.drop f.offset).take (P.cellsOf f.type))).map fun xs => (DataW.agg (xs.map (·.1)), xs.flatMap (·.2)) else none) = some x := by
          rw [← hx]
          conv => rhs; unfold DataW.trod; rw [hu]
        split at hx'
        · simp only [List.any_eq_true, Bool.and_eq_true] at h
          obtain ⟨f, hf, ⟨h1, h2⟩, h3⟩ := h
          cases hm : (fs.toList.mapM fun f => DataW.trod enc P w base spare held fuel f.type ((cs.drop f.offset).take (P.cellsOf f.type))) with
          | none => rw [hm] at hx'; cases hx'
          | some ys =>
            obtain ⟨y, hy⟩ := mapM_each hm f hf
            obtain ⟨n, hn⟩ := leaf64_spec d h3 hy
            have l1 : f.offset ≤ i := Nat.le_of_ble_eq_true h1
            have l2 : i < f.offset + P.cellsOf f.type := by simpa using h2
            rw [List.getElem?_take_of_lt (by omega), List.getElem?_drop, show f.offset + (i - f.offset) = i by omega] at hn
            exact ⟨n, hn⟩
        · cases hx'
      case array m e =>
        have hx' : (if cs.length = P.cellsOf t then ((List.range m).mapM fun i => DataW.trod enc P w base spare held fuel e ((cs.drop (i * P.cellsOf e)).take (P.cellsOf e))).map fun xs => (DataW.agg (xs.map (·.1)), xs.flatMap (·.2)) else none) = some x := by
          rw [← hx]
          conv => rhs; unfold DataW.trod; rw [hu]
        split at hx'
        · simp only [Bool.and_eq_true] at h
          obtain ⟨⟨h0, h1⟩, h3⟩ := h
          have l0 : 0 < P.cellsOf e := by simpa using h0
          have l1 : i / P.cellsOf e < m := by simpa using h1
          cases hm : ((List.range m).mapM fun i => DataW.trod enc P w base spare held fuel e ((cs.drop (i * P.cellsOf e)).take (P.cellsOf e))) with
          | none => rw [hm] at hx'; cases hx'
          | some ys =>
            obtain ⟨y, hy⟩ := mapM_each hm (i / P.cellsOf e) (List.mem_range.2 l1)
            obtain ⟨n, hn⟩ := leaf64_spec d h3 hy
            rw [List.getElem?_take_of_lt (Nat.mod_lt _ l0), List.getElem?_drop, Nat.div_add_mod'] at hn
            exact ⟨n, hn⟩
        · cases hx'
      all_goals cases h

/-- A slice whose elements are whole numbers all through. -/
theorem arg_rows {t e : TypeId} {m b : Nat} {v : Value} {d : DataW H} {ps : List MemPlace} (ht : P.underlying t = some (.slice e)) (hc : P.cellsOf e = m) (hlf : leaves64 P e m = true)
    (hval : Value.okWide P w .any b t v) (h : DataW.Trod enc P w 0 (fun _ => true) true t v d ps) :
    ∃ (s : Sl) (rows : List (List Int)), v = .slice s.b s.l s.c ∧ Rd w s m (fun r => r.map (Value.int .i64)) rows ∧ (∀ r ∈ rows, r.length = m) := by
  obtain ⟨a1, len, cap, rfl⟩ := okWide_slice ht hval
  obtain ⟨fuel, hf⟩ := h
  rcases open_slice ht hf with ⟨hcs, hx⟩ | ⟨a, len', cap', k, n, D, Pl, hcs, _, hl, hm, hk, _, hel⟩
  · simp [Value.cells] at hcs
    obtain ⟨rfl, rfl, rfl⟩ := hcs
    exact ⟨⟨none, 0, 0⟩, [], rfl, Rd.nil _ _ _, by simp⟩
  · simp [Value.cells] at hcs
    obtain ⟨rfl, rfl, rfl⟩ := hcs
    have hk' : k = cap := by simpa using hk
    have each : ∀ i, i < len → ∃ r : List Int, r.length = m ∧ HoldsAt w (a.add (i * m)) 0 (r.map (Value.int .i64)) := by
      intro i hi
      obtain ⟨cs, h1, h2⟩ := hel i (by omega)
      rw [hc] at h1
      obtain ⟨_, hlen, hcell⟩ := World.cells?_some h1
      have hints : ∀ j, j < m → ∃ n : Int, cs[j]? = some (.int .i64 n) := fun j hj => leaf64_spec 5 (allLt_spec hlf j hj) h2
      have conv : ∀ (cs : List Value), (∀ j, j < cs.length → ∃ n : Int, cs[j]? = some (.int .i64 n)) → ∃ r : List Int, cs = r.map (Value.int .i64) := by
        intro cs
        induction cs with
        | nil => intro _; exact ⟨[], rfl⟩
        | cons c cs ih =>
          intro hh
          obtain ⟨n, hn⟩ := hh 0 (by simp)
          simp at hn
          obtain ⟨r, hr⟩ := ih fun j hj => hh (j + 1) (by simpa using hj)
          exact ⟨n :: r, by rw [hn, hr]; rfl⟩
      obtain ⟨r, hr⟩ := conv cs fun j hj => hints j (by omega)
      refine ⟨r, by rw [← hlen, hr]; simp, ?_⟩
      rw [holds_iff]
      intro j v hj
      rw [← hr] at hj
      have hjm : j < m := by have := (List.getElem?_eq_some_iff.1 hj).1; omega
      rw [Nat.zero_add, hcell j hjm]; exact hj
    obtain ⟨rows, hlr, hrows⟩ : ∃ rows : List (List Int), rows.length = len ∧ ∀ i r, rows[i]? = some r → r.length = m ∧ HoldsAt w (a.add (i * m)) 0 (r.map (Value.int .i64)) := by
      have build : ∀ q, q ≤ len → ∃ rows : List (List Int), rows.length = q ∧ ∀ i r, rows[i]? = some r → r.length = m ∧ HoldsAt w (a.add (i * m)) 0 (r.map (Value.int .i64)) := by
        intro q
        induction q with
        | zero => intro _; exact ⟨[], rfl, by simp⟩
        | succ q ih =>
          intro hq
          obtain ⟨rows, h1, h2⟩ := ih (by omega)
          obtain ⟨r, h3, h4⟩ := each q (by omega)
          refine ⟨rows ++ [r], by simp [h1], fun i r' hi => ?_⟩
          by_cases hiq : i < rows.length
          · rw [List.getElem?_append_left hiq] at hi; exact h2 i r' hi
          · rw [List.getElem?_append_right (by omega)] at hi
            have : i - rows.length = 0 := by have := (List.getElem?_eq_some_iff.1 hi).1; simp at this; omega
            rw [this] at hi
            simp at hi
            subst hi
            have : i = q := by omega
            subst this
            exact ⟨h3, h4⟩
      exact build len (Nat.le_refl _)
    exact ⟨⟨some a, len, cap⟩, rows, rfl, ⟨hlr.symm, hl, fun i r hi => ⟨a, rfl, (hrows i r hi).2⟩⟩, fun r hr => by obtain ⟨i, hi⟩ := List.mem_iff_getElem?.1 hr; exact (hrows i r hi).1⟩
end

/-- The same rows, otherwise told. -/
theorem Rd.map {α β : Type} {w : World} {s : Sl} {n : Nat} {e : α → List Value} {e' : β → List Value} {xs : List α} (h : Rd w s n e xs) (f : α → β) (hf : ∀ x ∈ xs, e' (f x) = e x) : Rd w s n e' (xs.map f) := by
  refine ⟨by rw [List.length_map]; exact h.len, h.cap, fun i y hy => ?_⟩
  rw [List.getElem?_map] at hy
  cases hx : xs[i]? with
  | none => rw [hx] at hy; cases hy
  | some x =>
    rw [hx] at hy
    cases hy
    obtain ⟨a, ha, hh⟩ := h.get i x hx
    exact ⟨a, ha, by rw [hf x (List.mem_of_getElem? hx)]; exact hh⟩
end Go.Den
