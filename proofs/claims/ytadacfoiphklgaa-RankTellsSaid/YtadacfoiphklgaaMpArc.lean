/-
  Arcs in rows: sorted rows, what is put into them, what is cut. No program in sight.
-/
import Derived.Test.YtadacfoiphklgaaMpMem
namespace Go.Den
open Go

structure Arc where
  f : Int
  t : Int
  w : Int
  m : Int
  deriving DecidableEq

abbrev eArc (a : Arc) : List Value := [.int .i64 a.f, .int .i64 a.t, .int .i64 a.w, .int .i64 a.m]
abbrev tupA (a : Arc) : Int × Int × Int × Int × Unit := (a.f, a.t, a.w, a.m, ())
theorem eArc_ne (a : Arc) : eArc a ≠ [] := by simp [eArc]

/-! ### Sorted rows -/

section
variable {α : Type}

theorem pairwise_ext {r : α → α → Prop} (hirr : ∀ a, ¬ r a a) (has : ∀ a b, r a b → ¬ r b a) : ∀ {l m : List α}, l.Pairwise r → m.Pairwise r → (∀ x, x ∈ l ↔ x ∈ m) → l = m
  | [], [], _, _, _ => rfl
  | [], b :: m, _, _, h => absurd ((h b).2 (by simp)) (by simp)
  | a :: l, [], _, _, h => absurd ((h a).1 (by simp)) (by simp)
  | a :: l, b :: m, hl, hm, h => by
    rw [List.pairwise_cons] at hl hm
    have hab : a = b := by
      rcases List.mem_cons.1 ((h a).1 (by simp)) with e | e
      · exact e
      · rcases List.mem_cons.1 ((h b).2 (by simp)) with e' | e'
        · exact e'.symm
        · exact absurd (hm.1 a e) (has _ _ (hl.1 b e'))
    subst hab
    congr 1
    refine pairwise_ext hirr has hl.2 hm.2 fun x => ⟨fun hx => ?_, fun hx => ?_⟩
    · rcases List.mem_cons.1 ((h x).1 (by simp [hx])) with e | e
      · subst e; exact absurd (hl.1 x hx) (hirr x)
      · exact e
    · rcases List.mem_cons.1 ((h x).2 (by simp [hx])) with e | e
      · subst e; exact absurd (hm.1 x hx) (hirr x)
      · exact e

/-- A row that begins with those that are so. -/
theorem filter_append_not {r : α → α → Prop} {p : α → Bool} (hp : ∀ x y, r x y → p y = true → p x = true) : ∀ {l : List α}, l.Pairwise r → l.filter p ++ l.filter (fun x => !p x) = l
  | [], _ => rfl
  | a :: l, h => by
    rw [List.pairwise_cons] at h
    have ih := filter_append_not hp h.2
    cases ha : p a with
    | true => simp only [List.filter_cons, ha, Bool.not_true, if_true]; simp only [Bool.false_eq_true, if_false, List.cons_append, ih]
    | false =>
      have hn : ∀ x ∈ l, p x = false := fun x hx => by
        cases hpx : p x with
        | false => rfl
        | true => rw [hp a x (h.1 x hx) hpx] at ha; cases ha
      have h1 : l.filter p = [] := List.filter_eq_nil_iff.2 fun x hx => by rw [hn x hx]; simp
      have h2 : l.filter (fun x => !p x) = l := List.filter_eq_self.2 fun x hx => by rw [hn x hx]; rfl
      simp [List.filter_cons, ha, h1, h2]

theorem filter_split {p : α → Bool} : ∀ {l : List α} {i : Nat}, (∀ x ∈ l.take i, p x = true) → (∀ x ∈ l.drop i, p x = false) → l.filter p = l.take i ∧ l.filter (fun x => !p x) = l.drop i
  | l, 0, _, h2 => by
    simp only [List.drop_zero] at h2
    exact ⟨by simp only [List.take_zero]; exact List.filter_eq_nil_iff.2 fun x hx => by rw [h2 x hx]; simp, by simp only [List.drop_zero]; exact List.filter_eq_self.2 fun x hx => by rw [h2 x hx]; rfl⟩
  | [], i + 1, _, _ => by simp
  | a :: l, i + 1, h1, h2 => by
    simp only [List.take_succ_cons, List.drop_succ_cons] at h1 h2 ⊢
    obtain ⟨e1, e2⟩ := filter_split (l := l) (i := i) (fun x hx => h1 x (by simp [hx])) h2
    have ha := h1 a (by simp)
    simp [List.filter_cons, ha, e1, e2]

variable (k : α → Int)
/-- Rows by a key, each key once. -/
def Srt (l : List α) : Prop := l.Pairwise fun x y => k x < k y
/-- One is put into a row, in the stead of what has its key. -/
def insBy (l : List α) (a : α) : List α := l.filter (fun x => decide (k x < k a)) ++ a :: l.filter (fun x => decide (k a < k x))
/-- Where a key stands, or would. -/
structure IsLow (l : List α) (v : Int) (i : Nat) : Prop where
  le : i ≤ l.length
  lo : ∀ p x, p < i → l[p]? = some x → k x < v
  hi : ∀ p x, i ≤ p → l[p]? = some x → v ≤ k x

variable {k}
theorem Srt.get {l : List α} (h : Srt k l) {p q : Nat} {x y : α} (hpq : p < q) (hx : l[p]? = some x) (hy : l[q]? = some y) : k x < k y := by
  have := List.pairwise_iff_getElem.1 h
  have hp := (List.getElem?_eq_some_iff.1 hx)
  have hq := (List.getElem?_eq_some_iff.1 hy)
  obtain ⟨hp1, hp2⟩ := hp
  obtain ⟨hq1, hq2⟩ := hq
  have := this p q hp1 hq1 hpq
  rwa [hp2, hq2] at this

theorem IsLow.take {l : List α} {v : Int} {i : Nat} (h : IsLow k l v i) : l.take i = l.filter (fun x => decide (k x < v)) ∧ l.drop i = l.filter (fun x => decide (v ≤ k x)) := by
  have := filter_split (l := l) (i := i) (p := fun x => decide (k x < v)) (fun x hx => by
    obtain ⟨p, hp⟩ := List.mem_iff_getElem?.1 hx
    have hlt : p < i := by have := (List.getElem?_eq_some_iff.1 hp).1; simp at this; omega
    rw [List.getElem?_take_of_lt hlt] at hp
    simpa using h.lo p x hlt hp) (fun x hx => by
    obtain ⟨p, hp⟩ := List.mem_iff_getElem?.1 hx
    rw [List.getElem?_drop] at hp
    have := h.hi (i + p) x (by omega) hp
    simp; omega)
  refine ⟨this.1.symm, ?_⟩
  rw [← this.2]
  apply List.filter_congr
  intro x _
  by_cases h : k x < v <;> simp [h] <;> omega

theorem IsLow.found {l : List α} (hs : Srt k l) {v : Int} {i : Nat} (h : IsLow k l v i) {x : α} (hx : x ∈ l) (hk : k x = v) : l[i]? = some x := by
  obtain ⟨p, hp⟩ := List.mem_iff_getElem?.1 hx
  have h1 : i ≤ p := by
    apply Nat.le_of_not_lt
    intro hlt
    have := h.lo p x hlt hp
    omega
  rcases Nat.eq_or_lt_of_le h1 with e | hlt
  · rw [e]; exact hp
  · have hi : i < l.length := by have := (List.getElem?_eq_some_iff.1 hp).1; omega
    have h2 := h.hi i l[i] (Nat.le_refl _) (List.getElem?_eq_getElem hi)
    have h3 := hs.get hlt (List.getElem?_eq_getElem hi) hp
    omega

/-- Where nothing has that key. -/
theorem IsLow.ins_new {l : List α} {a : α} {i : Nat} (h : IsLow k l (k a) i) (hn : ∀ x ∈ l, k x ≠ k a) : l.take i ++ [a] ++ l.drop i = insBy k l a := by
  obtain ⟨e1, e2⟩ := h.take
  unfold insBy
  rw [e1, e2]
  simp only [List.append_assoc, List.cons_append, List.nil_append]
  congr 2
  apply List.filter_congr
  intro x hx
  have := hn x hx
  by_cases h1 : k a ≤ k x <;> by_cases h2 : k a < k x <;> simp [h1, h2] <;> omega
/-- Where one has it. -/
theorem IsLow.ins_at {l : List α} (hs : Srt k l) {a : α} {i : Nat} (h : IsLow k l (k a) i) {x : α} (hx : x ∈ l) (hk : k x = k a) : l.set i a = insBy k l a := by
  obtain ⟨e1, e2⟩ := h.take
  have hf := h.found hs hx hk
  have hi : i < l.length := (List.getElem?_eq_some_iff.1 hf).1
  unfold insBy
  rw [List.set_eq_take_append_cons_drop, if_pos hi, e1]
  congr 2
  have h3 : l.drop i = x :: l.drop (i + 1) := by
    rw [List.drop_eq_getElem_cons hi]
    congr 1
    exact (List.getElem?_eq_some_iff.1 hf).2
  have h4 : IsLow k l (k a + 1) (i + 1) := by
    refine ⟨hi, fun p y hp hy => ?_, fun p y hp hy => ?_⟩
    · rcases Nat.eq_or_lt_of_le (show p ≤ i by omega) with e | hlt
      · subst e; rw [hf] at hy; cases hy; omega
      · have := h.lo p y hlt hy; omega
    · have := hs.get (show i < p by omega) hf hy; omega
  rw [h4.take.2]
  apply List.filter_congr
  intro y _
  by_cases h1 : k a < k y <;> simp [h1] <;> omega

theorem Srt.filter {l : List α} (h : Srt k l) (p : α → Bool) : Srt k (l.filter p) := List.Pairwise.filter p h
theorem Srt.ins {l : List α} (h : Srt k l) (a : α) : Srt k (insBy k l a) := by
  unfold insBy Srt
  rw [List.pairwise_append]
  refine ⟨h.filter _, ?_, ?_⟩
  · rw [List.pairwise_cons]
    exact ⟨fun x hx => by simpa using (List.mem_filter.1 hx).2, h.filter _⟩
  · intro x hx y hy
    have h1 : k x < k a := by simpa using (List.mem_filter.1 hx).2
    rcases List.mem_cons.1 hy with e | hy
    · subst e; exact h1
    · have h2 : k a < k y := by simpa using (List.mem_filter.1 hy).2
      omega
theorem mem_insBy {l : List α} {a x : α} : x ∈ insBy k l a ↔ x = a ∨ (x ∈ l ∧ k x ≠ k a) := by
  unfold insBy
  simp only [List.mem_append, List.mem_cons, List.mem_filter, decide_eq_true_eq]
  constructor
  · rintro (⟨h1, h2⟩ | rfl | ⟨h1, h2⟩)
    · exact .inr ⟨h1, by omega⟩
    · exact .inl rfl
    · exact .inr ⟨h1, by omega⟩
  · rintro (rfl | ⟨h1, h2⟩)
    · exact .inr (.inl rfl)
    · by_cases h : k x < k a
      · exact .inl ⟨h1, h⟩
      · exact .inr (.inr ⟨h1, by omega⟩)
/-- What has a key is taken out. -/
theorem IsLow.del {l : List α} (hs : Srt k l) {v : Int} {i : Nat} (h : IsLow k l v i) {x : α} (hx : x ∈ l) (hk : k x = v) : l.take i ++ l.drop (i + 1) = l.filter (fun y => decide (k y ≠ v)) := by
  have hf := h.found hs hx hk
  have hi : i < l.length := (List.getElem?_eq_some_iff.1 hf).1
  have hsp : l.take i ++ x :: l.drop (i + 1) = l := by
    rw [← List.take_append_drop i l]
    congr 1
    · simp
    · rw [List.take_append_drop, List.drop_eq_getElem_cons hi]; congr 1; exact (List.getElem?_eq_some_iff.1 hf).2.symm
  have h1 : (l.take i).filter (fun y => decide (k y ≠ v)) = l.take i := List.filter_eq_self.2 fun y hy => by
    obtain ⟨p, hp⟩ := List.mem_iff_getElem?.1 hy
    have hlt : p < i := by have := (List.getElem?_eq_some_iff.1 hp).1; simp at this; omega
    rw [List.getElem?_take_of_lt hlt] at hp
    have := h.lo p y hlt hp
    simp; omega
  have h2 : (l.drop (i + 1)).filter (fun y => decide (k y ≠ v)) = l.drop (i + 1) := List.filter_eq_self.2 fun y hy => by
    obtain ⟨p, hp⟩ := List.mem_iff_getElem?.1 hy
    rw [List.getElem?_drop] at hp
    have := hs.get (show i < i + 1 + p by omega) hf hp
    simp; omega
  conv => rhs; rw [← hsp, List.filter_append, List.filter_cons, h1, h2]
  simp [hk]
end

/-! ### Nets -/

/-- By From, then To. -/
def lexlt (x y : Arc) : Bool := decide (x.f < y.f) || (decide (x.f = y.f) && decide (x.t < y.t))
def LSrt (l : List Arc) : Prop := l.Pairwise fun x y => lexlt x y = true
theorem lexlt_iff {x y : Arc} : lexlt x y = true ↔ x.f < y.f ∨ (x.f = y.f ∧ x.t < y.t) := by simp [lexlt]
def mayA (n : Nat) (a : Arc) : Prop := 0 ≤ a.f ∧ a.f < n ∧ 0 ≤ a.t ∧ a.t < n ∧ a.f ≠ a.t ∧ 1 ≤ a.w ∧ a.w ≤ 1099511627776 ∧ (a.m = -1 ∨ (0 ≤ a.m ∧ a.m < n ∧ a.m ≠ a.f ∧ a.m ≠ a.t))
instance (n : Nat) (a : Arc) : Decidable (mayA n a) := by unfold mayA; infer_instance
structure OkL (n : Nat) (l : List Arc) : Prop where
  srt : LSrt l
  may : ∀ a ∈ l, mayA n a
def insL (l : List Arc) (a : Arc) : List Arc := l.filter (fun x => lexlt x a) ++ a :: l.filter (fun x => lexlt a x)
def findL (l : List Arc) (f t : Int) : Option Arc := l.find? fun x => decide (x.f = f) && decide (x.t = t)
def putL (n : Nat) (l : List Arc) (a : Arc) : List Arc × Bool :=
  if mayA n a then (match findL l a.f a.t with
    | some x => if x.w ≤ a.w then (l, false) else (insL l a, true)
    | none => (insL l a, true)) else (l, false)
def cutL (l : List Arc) (v : Int) : List Arc := l.filter fun x => decide (x.f ≠ v) && decide (x.t ≠ v)
def outL (l : List Arc) (v : Int) : List Arc := l.filter fun x => decide (x.f = v)
def inL (l : List Arc) (v : Int) : List Arc := l.filter fun x => decide (x.t = v)

theorem LSrt.out {l : List Arc} (h : LSrt l) (v : Int) : Srt Arc.t (outL l v) := by
  unfold outL Srt
  refine List.Pairwise.imp_of_mem (fun {x y} hx hy hxy => ?_) (List.Pairwise.filter _ h)
  have h1 := (List.mem_filter.1 hx).2
  have h2 := (List.mem_filter.1 hy).2
  simp at h1 h2
  rcases lexlt_iff.1 hxy with h | ⟨_, h⟩
  · omega
  · exact h
theorem LSrt.inn {l : List Arc} (h : LSrt l) (v : Int) : Srt Arc.f (inL l v) := by
  unfold inL Srt
  refine List.Pairwise.imp_of_mem (fun {x y} hx hy hxy => ?_) (List.Pairwise.filter _ h)
  have h1 := (List.mem_filter.1 hx).2
  have h2 := (List.mem_filter.1 hy).2
  simp at h1 h2
  rcases lexlt_iff.1 hxy with h | ⟨_, h⟩ <;> omega
theorem mem_insL {l : List Arc} {a x : Arc} : x ∈ insL l a ↔ x = a ∨ (x ∈ l ∧ ¬ (x.f = a.f ∧ x.t = a.t)) := by
  unfold insL
  simp only [List.mem_append, List.mem_cons, List.mem_filter, lexlt_iff]
  constructor
  · rintro (⟨h1, h2⟩ | rfl | ⟨h1, h2⟩)
    · exact .inr ⟨h1, by omega⟩
    · exact .inl rfl
    · exact .inr ⟨h1, by omega⟩
  · rintro (rfl | ⟨h1, h2⟩)
    · exact .inr (.inl rfl)
    · rcases Int.lt_trichotomy x.f a.f with h | h | h
      · exact .inl ⟨h1, .inl h⟩
      · rcases Int.lt_trichotomy x.t a.t with h' | h' | h'
        · exact .inl ⟨h1, .inr ⟨h, h'⟩⟩
        · exact absurd ⟨h, h'⟩ h2
        · exact .inr (.inr ⟨h1, .inr ⟨h.symm, h'⟩⟩)
      · exact .inr (.inr ⟨h1, .inl h⟩)
theorem lexlt_trans {x y z : Arc} (h1 : lexlt x y = true) (h2 : lexlt y z = true) : lexlt x z = true := by
  rw [lexlt_iff] at *; omega
theorem LSrt.ins {l : List Arc} (h : LSrt l) (a : Arc) : LSrt (insL l a) := by
  unfold insL LSrt
  rw [List.pairwise_append]
  refine ⟨List.Pairwise.filter _ h, ?_, ?_⟩
  · rw [List.pairwise_cons]
    exact ⟨fun x hx => (List.mem_filter.1 hx).2, List.Pairwise.filter _ h⟩
  · intro x hx y hy
    have h1 := (List.mem_filter.1 hx).2
    rcases List.mem_cons.1 hy with e | hy
    · subst e; exact h1
    · exact lexlt_trans h1 (List.mem_filter.1 hy).2
theorem OkL.ins {n : Nat} {l : List Arc} (h : OkL n l) {a : Arc} (ha : mayA n a) : OkL n (insL l a) :=
  ⟨h.srt.ins a, fun x hx => by rcases mem_insL.1 hx with rfl | ⟨h1, _⟩; exact ha; exact h.may x h1⟩
theorem OkL.filter {n : Nat} {l : List Arc} (h : OkL n l) (p : Arc → Bool) : OkL n (l.filter p) := ⟨List.Pairwise.filter _ h.srt, fun x hx => h.may x (List.mem_filter.1 hx).1⟩
theorem OkL.cut {n : Nat} {l : List Arc} (h : OkL n l) (v : Int) : OkL n (cutL l v) := h.filter _
theorem OkL.nil (n : Nat) : OkL n [] := ⟨List.Pairwise.nil, by simp⟩

/-- Sorted rows with the same arcs are the same. -/
theorem LSrt.ext {l m : List Arc} (h : LSrt l) (h' : LSrt m) (he : ∀ x, x ∈ l ↔ x ∈ m) : l = m :=
  pairwise_ext (fun a h => by rw [lexlt_iff] at h; omega) (fun a b h1 h2 => by rw [lexlt_iff] at h1 h2; omega) h h' he
theorem Srt.ext {k : Arc → Int} {l m : List Arc} (h : Srt k l) (h' : Srt k m) (he : ∀ x, x ∈ l ↔ x ∈ m) : l = m :=
  pairwise_ext (fun a h => by omega) (fun a b h1 h2 => by omega) h h' he

theorem mem_outL {l : List Arc} {v : Int} {x : Arc} : x ∈ outL l v ↔ x ∈ l ∧ x.f = v := by simp [outL]
theorem mem_inL {l : List Arc} {v : Int} {x : Arc} : x ∈ inL l v ↔ x ∈ l ∧ x.t = v := by simp [inL]
theorem mem_cutL {l : List Arc} {v : Int} {x : Arc} : x ∈ cutL l v ↔ x ∈ l ∧ x.f ≠ v ∧ x.t ≠ v := by simp [cutL]
theorem outL_ins {l : List Arc} (h : LSrt l) (a : Arc) (v : Int) : outL (insL l a) v = if v = a.f then insBy Arc.t (outL l v) a else outL l v := by
  split
  · rename_i hv
    subst hv
    refine ((h.ins a).out _).ext ((h.out _).ins a) fun x => ?_
    simp only [mem_outL, mem_insL, mem_insBy]
    constructor
    · rintro ⟨rfl | ⟨h1, h2⟩, h3⟩
      · exact .inl rfl
      · exact .inr ⟨⟨h1, h3⟩, fun h => h2 ⟨h3, h⟩⟩
    · rintro (rfl | ⟨⟨h1, h2⟩, h3⟩)
      · exact ⟨.inl rfl, rfl⟩
      · exact ⟨.inr ⟨h1, fun h => h3 h.2⟩, h2⟩
  · rename_i hv
    refine ((h.ins a).out _).ext (h.out _) fun x => ?_
    simp only [mem_outL, mem_insL]
    constructor
    · rintro ⟨rfl | ⟨h1, h2⟩, h3⟩
      · exact absurd h3.symm hv
      · exact ⟨h1, h3⟩
    · rintro ⟨h1, h2⟩
      exact ⟨.inr ⟨h1, fun h => hv (by rw [← h2, h.1])⟩, h2⟩
theorem inL_ins {l : List Arc} (h : LSrt l) (a : Arc) (v : Int) : inL (insL l a) v = if v = a.t then insBy Arc.f (inL l v) a else inL l v := by
  split
  · rename_i hv
    subst hv
    refine ((h.ins a).inn _).ext ((h.inn _).ins a) fun x => ?_
    simp only [mem_inL, mem_insL, mem_insBy]
    constructor
    · rintro ⟨rfl | ⟨h1, h2⟩, h3⟩
      · exact .inl rfl
      · exact .inr ⟨⟨h1, h3⟩, fun h => h2 ⟨h, h3⟩⟩
    · rintro (rfl | ⟨⟨h1, h2⟩, h3⟩)
      · exact ⟨.inl rfl, rfl⟩
      · exact ⟨.inr ⟨h1, fun h => h3 h.1⟩, h2⟩
  · rename_i hv
    refine ((h.ins a).inn _).ext (h.inn _) fun x => ?_
    simp only [mem_inL, mem_insL]
    constructor
    · rintro ⟨rfl | ⟨h1, h2⟩, h3⟩
      · exact absurd h3.symm hv
      · exact ⟨h1, h3⟩
    · rintro ⟨h1, h2⟩
      exact ⟨.inr ⟨h1, fun h => hv (by rw [← h2, h.2])⟩, h2⟩
theorem findL_some {l : List Arc} {f t : Int} {x : Arc} (h : findL l f t = some x) : x ∈ l ∧ x.f = f ∧ x.t = t := by
  have h1 := List.find?_some h
  simp at h1
  exact ⟨List.mem_of_find?_eq_some h, h1.1, h1.2⟩
theorem findL_none {l : List Arc} {f t : Int} (h : findL l f t = none) : ∀ x ∈ l, ¬ (x.f = f ∧ x.t = t) := by
  intro x hx hk
  have := List.find?_eq_none.1 h x hx
  simp [hk] at this
theorem findL_eq {l : List Arc} (hs : LSrt l) {x : Arc} (hx : x ∈ l) : findL l x.f x.t = some x := by
  cases h : findL l x.f x.t with
  | none => exact absurd ⟨rfl, rfl⟩ (findL_none h x hx)
  | some y =>
    obtain ⟨h1, h2, h3⟩ := findL_some h
    congr 1
    have hp := List.pairwise_iff_getElem.1 hs
    obtain ⟨p, hp1, hp2⟩ := List.mem_iff_getElem.1 h1
    obtain ⟨q, hq1, hq2⟩ := List.mem_iff_getElem.1 hx
    rcases Nat.lt_trichotomy p q with hlt | heq | hlt
    · have := hp p q hp1 hq1 hlt; rw [hp2, hq2, lexlt_iff] at this; omega
    · subst heq; rw [← hp2, ← hq2]
    · have := hp q p hq1 hp1 hlt; rw [hp2, hq2, lexlt_iff] at this; omega
theorem putL_ok {n : Nat} {l : List Arc} (h : OkL n l) (a : Arc) : OkL n (putL n l a).1 := by
  unfold putL
  split
  · rename_i ha
    split
    · split
      · exact h
      · exact h.ins ha
    · exact h.ins ha
  · exact h

/-- All arcs, number by number. -/
theorem flat_outL {n : Nat} {l : List Arc} (h : OkL n l) : (List.range n).flatMap (fun v : Nat => outL l (v : Int)) = l := by
  refine LSrt.ext ?_ h.srt fun x => ?_
  · unfold LSrt
    rw [List.pairwise_flatMap]
    refine ⟨fun v _ => ?_, ?_⟩
    · exact List.Pairwise.filter _ h.srt
    · have : (List.range n).Pairwise (· < ·) := List.pairwise_lt_range
      refine List.Pairwise.imp (fun {u v} huv x hx y hy => ?_) this
      rw [mem_outL] at hx hy
      rw [lexlt_iff]
      omega
  · simp only [List.mem_flatMap, List.mem_range, mem_outL]
    constructor
    · rintro ⟨v, _, h1, _⟩; exact h1
    · intro hx
      have := h.may x hx
      unfold mayA at this
      exact ⟨x.f.toNat, by omega, hx, by omega⟩

theorem srt_len {k : Arc → Int} {l : List Arc} (h : Srt k l) {n : Nat} (hk : ∀ x ∈ l, 0 ≤ k x ∧ k x < n) : l.length ≤ n := by
  have key : ∀ (i : Nat) (x : Arc), l[i]? = some x → (i : Int) ≤ k x := by
    intro i
    induction i with
    | zero => intro x hx; exact (hk x (List.mem_of_getElem? hx)).1
    | succ i ih =>
      intro x hx
      have hi : i < l.length := by have := (List.getElem?_eq_some_iff.1 hx).1; omega
      have h1 := ih _ (List.getElem?_eq_getElem hi)
      have h2 := h.get (Nat.lt_succ_self i) (List.getElem?_eq_getElem hi) hx
      omega
  rcases Nat.eq_zero_or_pos l.length with h0 | h0
  · omega
  · have hi : l.length - 1 < l.length := by omega
    have h1 := key _ _ (List.getElem?_eq_getElem hi)
    have h2 := (hk _ (List.getElem_mem hi)).2
    omega
theorem OkL.out_len {n : Nat} {l : List Arc} (h : OkL n l) (v : Int) : (outL l v).length ≤ n := srt_len (h.srt.out v) fun x hx => by
  have := h.may x (mem_outL.1 hx).1
  exact ⟨this.2.2.1, this.2.2.2.1⟩
theorem OkL.in_len {n : Nat} {l : List Arc} (h : OkL n l) (v : Int) : (inL l v).length ≤ n := srt_len (h.srt.inn v) fun x hx => by
  have := h.may x (mem_inL.1 hx).1
  exact ⟨this.1, this.2.1⟩

def putAll (n : Nat) (l : List Arc) (xs : List Arc) : List Arc := xs.foldl (fun l a => (putL n l a).1) l
theorem putAll_ok {n : Nat} : ∀ (xs : List Arc) {l : List Arc}, OkL n l → OkL n (putAll n l xs)
  | [], _, h => h
  | a :: xs, _, h => putAll_ok xs (putL_ok h a)
theorem putAll_snoc (n : Nat) (l xs : List Arc) (a : Arc) : putAll n l (xs ++ [a]) = (putL n (putAll n l xs) a).1 := by simp [putAll]
/-- What stands sorted is put just so. -/
theorem putAll_self {n : Nat} : ∀ {xs p : List Arc}, OkL n (p ++ xs) → putAll n p xs = p ++ xs
  | [], p, _ => by simp [putAll]
  | a :: xs, p, h => by
    have hsp : LSrt (p ++ a :: xs) := h.srt
    unfold LSrt at hsp
    rw [List.pairwise_append] at hsp
    have hlt : ∀ x ∈ p, lexlt x a = true := fun x hx => hsp.2.2 x hx a (by simp)
    have hno : findL p a.f a.t = none := by
      cases hf : findL p a.f a.t with
      | none => rfl
      | some x =>
        obtain ⟨h1, h2, h3⟩ := findL_some hf
        have := hlt x h1
        rw [lexlt_iff] at this; omega
    have he : (putL n p a).1 = p ++ [a] := by
      unfold putL
      rw [if_pos (h.may a (by simp)), hno]
      unfold insL
      have e1 : p.filter (fun x => lexlt x a) = p := List.filter_eq_self.2 hlt
      have e2 : p.filter (fun x => lexlt a x) = [] := List.filter_eq_nil_iff.2 fun x hx hn => by
        have := hlt x hx
        rw [lexlt_iff] at this hn; omega
      rw [e1, e2]
    have h' : OkL n ((p ++ [a]) ++ xs) := by simpa using h
    have := putAll_self (xs := xs) (p := p ++ [a]) h'
    show putAll n (putL n p a).1 xs = _
    rw [he, this]; simp

/-- Where an arc is, or would be. -/
structure LowL (l : List Arc) (f t : Int) (i : Nat) : Prop where
  le : i ≤ l.length
  lo : ∀ p x, p < i → l[p]? = some x → x.f < f ∨ (x.f = f ∧ x.t < t)
  hi : ∀ p x, i ≤ p → l[p]? = some x → ¬ (x.f < f ∨ (x.f = f ∧ x.t < t))

theorem LSrt.get {l : List Arc} (h : LSrt l) {p q : Nat} {x y : Arc} (hpq : p < q) (hx : l[p]? = some x) (hy : l[q]? = some y) : x.f < y.f ∨ (x.f = y.f ∧ x.t < y.t) := by
  have := List.pairwise_iff_getElem.1 h
  obtain ⟨hp1, hp2⟩ := List.getElem?_eq_some_iff.1 hx
  obtain ⟨hq1, hq2⟩ := List.getElem?_eq_some_iff.1 hy
  have := this p q hp1 hq1 hpq
  rw [hp2, hq2] at this
  exact lexlt_iff.1 this


theorem LowL.found {l : List Arc} (hs : LSrt l) {f t : Int} {i : Nat} (h : LowL l f t i) {x : Arc} (hx : x ∈ l) (hf : x.f = f) (ht : x.t = t) : l[i]? = some x := by
  obtain ⟨p, hp⟩ := List.mem_iff_getElem?.1 hx
  have h2 : i ≤ p := by
    apply Nat.le_of_not_lt
    intro hlt
    have := h.lo p x hlt hp
    omega
  rcases Nat.eq_or_lt_of_le h2 with e | hlt
  · rw [e]; exact hp
  · have hjl : i < l.length := by have := (List.getElem?_eq_some_iff.1 hp).1; omega
    have h3 := h.hi i l[i] (Nat.le_refl _) (List.getElem?_eq_getElem hjl)
    have h4 := hs.get hlt (List.getElem?_eq_getElem hjl) hp
    omega
theorem LowL.split {l : List Arc} {f t : Int} {i : Nat} (h : LowL l f t i) : l.take i = l.filter (fun x => decide (x.f < f ∨ (x.f = f ∧ x.t < t))) ∧ l.drop i = l.filter (fun x => !decide (x.f < f ∨ (x.f = f ∧ x.t < t))) := by
  have := filter_split (l := l) (i := i) (p := fun x => decide (x.f < f ∨ (x.f = f ∧ x.t < t))) (fun x hx => by
    obtain ⟨p, hp⟩ := List.mem_iff_getElem?.1 hx
    have hlt : p < i := by have := (List.getElem?_eq_some_iff.1 hp).1; simp at this; omega
    rw [List.getElem?_take_of_lt hlt] at hp
    exact decide_eq_true (h.lo p x hlt hp)) (fun x hx => by
    obtain ⟨p, hp⟩ := List.mem_iff_getElem?.1 hx
    rw [List.getElem?_drop] at hp
    exact decide_eq_false (h.hi (i + p) x (by omega) hp))
  exact ⟨this.1.symm, this.2.symm⟩
theorem LowL.ins_new {l : List Arc} {a : Arc} {i : Nat} (h : LowL l a.f a.t i) (hn : ∀ x ∈ l, ¬ (x.f = a.f ∧ x.t = a.t)) : l.take i ++ [a] ++ l.drop i = insL l a := by
  unfold insL
  rw [h.split.1, h.split.2]
  simp only [List.append_assoc, List.cons_append, List.nil_append]
  congr 1
  · exact List.filter_congr fun x _ => by simp [lexlt]
  · congr 1
    refine List.filter_congr fun x hx => ?_
    have := hn x hx
    apply Bool.eq_iff_iff.2
    simp only [Bool.not_eq_true', decide_eq_false_iff_not, lexlt_iff]
    omega
theorem LowL.ins_at {l : List Arc} (hs : LSrt l) {a : Arc} {i : Nat} (h : LowL l a.f a.t i) {x : Arc} (hx : x ∈ l) (hf : x.f = a.f) (ht : x.t = a.t) : l.set i a = insL l a := by
  have hxi := h.found hs hx hf ht
  have hi : i < l.length := (List.getElem?_eq_some_iff.1 hxi).1
  have h2 : LowL l a.f (a.t + 1) (i + 1) := by
    refine ⟨hi, fun p y hp hy => ?_, fun p y hp hy => ?_⟩
    · rcases Nat.eq_or_lt_of_le (show p ≤ i by omega) with e | hlt
      · subst e; rw [hxi] at hy; cases hy; omega
      · have := h.lo p y hlt hy; omega
    · have := hs.get (show i < p by omega) hxi hy; omega
  unfold insL
  rw [List.set_eq_take_append_cons_drop, if_pos hi, h.split.1, h2.split.2]
  congr 1
  · exact List.filter_congr fun x _ => by simp [lexlt]
  · congr 1
    refine List.filter_congr fun y hy => ?_
    apply Bool.eq_iff_iff.2
    simp only [Bool.not_eq_true', decide_eq_false_iff_not, lexlt_iff]
    omega

theorem flat_len {α β : Type} (f : α → List β) (n : Nat) : ∀ l : List α, (∀ x ∈ l, (f x).length ≤ n) → (l.flatMap f).length ≤ l.length * n
  | [], _ => by simp
  | x :: l, h => by
    have := flat_len f n l fun y hy => h y (by simp [hy])
    have := h x (by simp)
    simp only [List.flatMap_cons, List.length_append, List.length_cons, Nat.add_mul]
    omega
theorem OkL.len {n : Nat} {l : List Arc} (h : OkL n l) (hn : n ≤ 512) : l.length ≤ 262144 := by
  have h1 := flat_len (fun v : Nat => outL l (v : Int)) n (List.range n) fun v _ => h.out_len v
  rw [flat_outL h, List.length_range] at h1
  have h2 : n * n ≤ 512 * 512 := Nat.mul_le_mul hn hn
  omega

end Go.Den
