import Derived.Test.YtjjgcimlmjnaeaaGreatA1
namespace Go.Den
open Go
structure Arc where
 f : Int
 t : Int
 w : Int
 m : Int
 deriving DecidableEq
abbrev eArc (a : Arc) : List Value := [.int .i64 a.f, .int .i64 a.t, .int .i64 a.w, .int .i64 a.m]
abbrev tupA (a : Arc) : Int × Int × Int × Int × Unit := (a.f, a.t, a.w, a.m, ())
theorem eArc_ne (a : Arc) : eArc a ≠ [] := by simp [eArc]
section
variable {α : Type}
theorem pairwise_ext {r : α → α → Prop} (hirr : ∀ a, ¬ r a a) (has : ∀ a b, r a b → ¬ r b a) : ∀ {l m : List α}, l.Pairwise r → m.Pairwise r → (∀ x, x ∈ l ↔ x ∈ m) → l = m
 | [], [], _, _, _ => rfl
 | [], b :: m, _, _, h => absurd ((h b).2 (by simp)) (by simp)
 | a :: l, [], _, _, h => absurd ((h a).1 (by simp)) (by simp)
 | a :: l, b :: m, hl, hm, h => by
  rw [List.pairwise_cons] at hl hm
  have hab : a = b := by
   rcases List.mem_cons.1 ((h a).1 (by simp)) with e | e
   ·exact e
   ·rcases List.mem_cons.1 ((h b).2 (by simp)) with e' | e'
    ·exact e'.symm
    ·exact absurd (hm.1 a e) (has _ _ (hl.1 b e'))
  subst hab
  congr 1
  refine pairwise_ext hirr has hl.2 hm.2 fun x => ⟨fun hx => ?_, fun hx => ?_⟩
  ·rcases List.mem_cons.1 ((h x).1 (by simp [hx])) with e | e
   ·subst e; exact absurd (hl.1 x hx) (hirr x)
   ·exact e
  ·rcases List.mem_cons.1 ((h x).2 (by simp [hx])) with e | e
   ·subst e; exact absurd (hm.1 x hx) (hirr x)
   ·exact e
theorem filter_split {p : α → Bool} : ∀ {l : List α} {i : Nat}, (∀ x ∈ l.take i, p x = true) → (∀ x ∈ l.drop i, p x = false) → l.filter p = l.take i ∧ l.filter (fun x => !p x) = l.drop i
 | l, 0, _, h2 => by
  simp only [List.drop_zero] at h2
  exact ⟨by simp only [List.take_zero]; exact List.filter_eq_nil_iff.2 fun x hx => by rw [h2 x hx]; simp, by simp only [List.drop_zero]; exact List.filter_eq_self.2 fun x hx => by rw [h2 x hx]; rfl⟩
 | [], i + 1, _, _ => by simp
 | a :: l, i + 1, h1, h2 => by
  simp only [List.take_succ_cons, List.drop_succ_cons] at h1 h2 ⊢
  obtain ⟨e1, e2⟩ := filter_split (l := l) (i := i) (fun x hx => h1 x (by simp [hx])) h2
  have ha := h1 a (by simp)
  simp [List.filter_cons, ha, e1, e2]
variable (k : α → Int)
def Srt (l : List α) : Prop := l.Pairwise fun x y => k x < k y
def insBy (l : List α) (a : α) : List α := l.filter (fun x => decide (k x < k a)) ++ a :: l.filter (fun x => decide (k a < k x))
structure IsLow (l : List α) (v : Int) (i : Nat) : Prop where
 le : i ≤ l.length
 lo : ∀ p x, p < i → l[p]? = some x → k x < v
 hi : ∀ p x, i ≤ p → l[p]? = some x → v ≤ k x
variable {k}
theorem Srt.get {l : List α} (h : Srt k l) {p q : Nat} {x y : α} (hpq : p < q) (hx : l[p]? = some x) (hy : l[q]? = some y) : k x < k y := by
 have := List.pairwise_iff_getElem.1 h
 have hp := (List.getElem?_eq_some_iff.1 hx)
 have hq := (List.getElem?_eq_some_iff.1 hy)
 obtain ⟨hp1, hp2⟩ := hp
 obtain ⟨hq1, hq2⟩ := hq
 have := this p q hp1 hq1 hpq
 rwa [hp2, hq2] at this
theorem IsLow.take {l : List α} {v : Int} {i : Nat} (h : IsLow k l v i) : l.take i = l.filter (fun x => decide (k x < v)) ∧ l.drop i = l.filter (fun x => decide (v ≤ k x)) := by
 have := filter_split (l := l) (i := i) (p := fun x => decide (k x < v)) (fun x hx => by
  obtain ⟨p, hp⟩ := List.mem_iff_getElem?.1 hx
  have hlt : p < i := by have := (List.getElem?_eq_some_iff.1 hp).1; simp at this; omega
  rw [List.getElem?_take_of_lt hlt] at hp
  simpa using h.lo p x hlt hp) (fun x hx => by
  obtain ⟨p, hp⟩ := List.mem_iff_getElem?.1 hx
  rw [List.getElem?_drop] at hp
  have := h.hi (i + p) x (by omega) hp
  simp; omega)
 refine ⟨this.1.symm, ?_⟩
 rw [← this.2]
 apply List.filter_congr
 intro x _
 by_cases h : k x < v <;> simp [h] <;> omega
theorem IsLow.found {l : List α} (hs : Srt k l) {v : Int} {i : Nat} (h : IsLow k l v i) {x : α} (hx : x ∈ l) (hk : k x = v) : l[i]? = some x := by
 obtain ⟨p, hp⟩ := List.mem_iff_getElem?.1 hx
 have h1 : i ≤ p := by
  apply Nat.le_of_not_lt
  intro hlt
  have := h.lo p x hlt hp
  omega
 rcases Nat.eq_or_lt_of_le h1 with e | hlt
 ·rw [e]; exact hp
 ·have hi : i < l.length := by have := (List.getElem?_eq_some_iff.1 hp).1; omega
  have h2 := h.hi i l[i] (Nat.le_refl _) (List.getElem?_eq_getElem hi)
  have h3 := hs.get hlt (List.getElem?_eq_getElem hi) hp
  omega
theorem IsLow.ins_new {l : List α} {a : α} {i : Nat} (h : IsLow k l (k a) i) (hn : ∀ x ∈ l, k x ≠ k a) : l.take i ++ [a] ++ l.drop i = insBy k l a := by
 obtain ⟨e1, e2⟩ := h.take
 unfold insBy
 rw [e1, e2]
 simp only [List.append_assoc, List.cons_append, List.nil_append]
 congr 2
 apply List.filter_congr
 intro x hx
 have := hn x hx
 by_cases h1 : k a ≤ k x <;> by_cases h2 : k a < k x <;> simp [h1, h2] <;> omega
theorem IsLow.ins_at {l : List α} (hs : Srt k l) {a : α} {i : Nat} (h : IsLow k l (k a) i) {x : α} (hx : x ∈ l) (hk : k x = k a) : l.set i a = insBy k l a := by
 obtain ⟨e1, e2⟩ := h.take
 have hf := h.found hs hx hk
 have hi : i < l.length := (List.getElem?_eq_some_iff.1 hf).1
 unfold insBy
 rw [List.set_eq_take_append_cons_drop, if_pos hi, e1]
 congr 2
 have h3 : l.drop i = x :: l.drop (i + 1) := by
  rw [List.drop_eq_getElem_cons hi]
  congr 1
  exact (List.getElem?_eq_some_iff.1 hf).2
 have h4 : IsLow k l (k a + 1) (i + 1) := by
  refine ⟨hi, fun p y hp hy => ?_, fun p y hp hy => ?_⟩
  ·rcases Nat.eq_or_lt_of_le (show p ≤ i by omega) with e | hlt
   ·subst e; rw [hf] at hy; cases hy; omega
   ·have := h.lo p y hlt hy; omega
  ·have := hs.get (show i < p by omega) hf hy; omega
 rw [h4.take.2]
 apply List.filter_congr
 intro y _
 by_cases h1 : k a < k y <;> simp [h1] <;> omega
theorem Srt.filter {l : List α} (h : Srt k l) (p : α → Bool) : Srt k (l.filter p) := List.Pairwise.filter p h
theorem Srt.ins {l : List α} (h : Srt k l) (a : α) : Srt k (insBy k l a) := by
 unfold insBy Srt
 rw [List.pairwise_append]
 refine ⟨h.filter _, ?_, ?_⟩
 ·rw [List.pairwise_cons]
  exact ⟨fun x hx => by simpa using (List.mem_filter.1 hx).2, h.filter _⟩
 ·intro x hx y hy
  have h1 : k x < k a := by simpa using (List.mem_filter.1 hx).2
  rcases List.mem_cons.1 hy with e | hy
  ·subst e; exact h1
  ·have h2 : k a < k y := by simpa using (List.mem_filter.1 hy).2
   omega
theorem mem_insBy {l : List α} {a x : α} : x ∈ insBy k l a ↔ x = a ∨ (x ∈ l ∧ k x ≠ k a) := by
 unfold insBy
 simp only [List.mem_append, List.mem_cons, List.mem_filter, decide_eq_true_eq]
 constructor
 ·rintro (⟨h1, h2⟩ | rfl | ⟨h1, h2⟩)
  ·exact .inr ⟨h1, by omega⟩
  ·exact .inl rfl
  ·exact .inr ⟨h1, by omega⟩
 ·rintro (rfl | ⟨h1, h2⟩)
  ·exact .inr (.inl rfl)
  ·by_cases h : k x < k a
   ·exact .inl ⟨h1, h⟩
   ·exact .inr (.inr ⟨h1, by omega⟩)
theorem IsLow.del {l : List α} (hs : Srt k l) {v : Int} {i : Nat} (h : IsLow k l v i) {x : α} (hx : x ∈ l) (hk : k x = v) : l.take i ++ l.drop (i + 1) = l.filter (fun y => decide (k y ≠ v)) := by
 have hf := h.found hs hx hk
 have hi : i < l.length := (List.getElem?_eq_some_iff.1 hf).1
 have hsp : l.take i ++ x :: l.drop (i + 1) = l := by
  rw [← List.take_append_drop i l]
  congr 1
  ·simp
  ·rw [List.take_append_drop, List.drop_eq_getElem_cons hi]; congr 1; exact (List.getElem?_eq_some_iff.1 hf).2.symm
 have h1 : (l.take i).filter (fun y => decide (k y ≠ v)) = l.take i := List.filter_eq_self.2 fun y hy => by
  obtain ⟨p, hp⟩ := List.mem_iff_getElem?.1 hy
  have hlt : p < i := by have := (List.getElem?_eq_some_iff.1 hp).1; simp at this; omega
  rw [List.getElem?_take_of_lt hlt] at hp
  have := h.lo p y hlt hp
  simp; omega
 have h2 : (l.drop (i + 1)).filter (fun y => decide (k y ≠ v)) = l.drop (i + 1) := List.filter_eq_self.2 fun y hy => by
  obtain ⟨p, hp⟩ := List.mem_iff_getElem?.1 hy
  rw [List.getElem?_drop] at hp
  have := hs.get (show i < i + 1 + p by omega) hf hp
  simp; omega
 conv => rhs; rw [← hsp, List.filter_append, List.filter_cons, h1, h2]
 simp [hk]
end
def lexlt (x y : Arc) : Bool := decide (x.f < y.f) || (decide (x.f = y.f) && decide (x.t < y.t))
def LSrt (l : List Arc) : Prop := l.Pairwise fun x y => lexlt x y = true
theorem lexlt_iff {x y : Arc} : lexlt x y = true ↔ x.f < y.f ∨ (x.f = y.f ∧ x.t < y.t) := by simp [lexlt]
def mayA (n : Nat) (a : Arc) : Prop := 0 ≤ a.f ∧ a.f < n ∧ 0 ≤ a.t ∧ a.t < n ∧ a.f ≠ a.t ∧ 1 ≤ a.w ∧ a.w ≤ 1099511627776 ∧ (a.m = -1 ∨ (0 ≤ a.m ∧ a.m < n ∧ a.m ≠ a.f ∧ a.m ≠ a.t))
instance (n : Nat) (a : Arc) : Decidable (mayA n a) := by unfold mayA; infer_instance
structure OkL (n : Nat) (l : List Arc) : Prop where
 srt : LSrt l
 may : ∀ a ∈ l, mayA n a
def insL (l : List Arc) (a : Arc) : List Arc := l.filter (fun x => lexlt x a) ++ a :: l.filter (fun x => lexlt a x)
def findL (l : List Arc) (f t : Int) : Option Arc := l.find? fun x => decide (x.f = f) && decide (x.t = t)
def putL (n : Nat) (l : List Arc) (a : Arc) : List Arc × Bool :=
 if mayA n a then (match findL l a.f a.t with
  | some x => if x.w ≤ a.w then (l, false) else (insL l a, true)
  | none => (insL l a, true)) else (l, false)
def cutL (l : List Arc) (v : Int) : List Arc := l.filter fun x => decide (x.f ≠ v) && decide (x.t ≠ v)
def outL (l : List Arc) (v : Int) : List Arc := l.filter fun x => decide (x.f = v)
def inL (l : List Arc) (v : Int) : List Arc := l.filter fun x => decide (x.t = v)
theorem LSrt.out {l : List Arc} (h : LSrt l) (v : Int) : Srt Arc.t (outL l v) := by
 unfold outL Srt
 refine List.Pairwise.imp_of_mem (fun {x y} hx hy hxy => ?_) (List.Pairwise.filter _ h)
 have h1 := (List.mem_filter.1 hx).2
 have h2 := (List.mem_filter.1 hy).2
 simp at h1 h2
 rcases lexlt_iff.1 hxy with h | ⟨_, h⟩
 ·omega
 ·exact h
theorem LSrt.inn {l : List Arc} (h : LSrt l) (v : Int) : Srt Arc.f (inL l v) := by
 unfold inL Srt
 refine List.Pairwise.imp_of_mem (fun {x y} hx hy hxy => ?_) (List.Pairwise.filter _ h)
 have h1 := (List.mem_filter.1 hx).2
 have h2 := (List.mem_filter.1 hy).2
 simp at h1 h2
 rcases lexlt_iff.1 hxy with h | ⟨_, h⟩ <;> omega
theorem mem_insL {l : List Arc} {a x : Arc} : x ∈ insL l a ↔ x = a ∨ (x ∈ l ∧ ¬ (x.f = a.f ∧ x.t = a.t)) := by
 unfold insL
 simp only [List.mem_append, List.mem_cons, List.mem_filter, lexlt_iff]
 constructor
 ·rintro (⟨h1, h2⟩ | rfl | ⟨h1, h2⟩)
  ·exact .inr ⟨h1, by omega⟩
  ·exact .inl rfl
  ·exact .inr ⟨h1, by omega⟩
 ·rintro (rfl | ⟨h1, h2⟩)
  ·exact .inr (.inl rfl)
  ·rcases Int.lt_trichotomy x.f a.f with h | h | h
   ·exact .inl ⟨h1, .inl h⟩
   ·rcases Int.lt_trichotomy x.t a.t with h' | h' | h'
    ·exact .inl ⟨h1, .inr ⟨h, h'⟩⟩
    ·exact absurd ⟨h, h'⟩ h2
    ·exact .inr (.inr ⟨h1, .inr ⟨h.symm, h'⟩⟩)
   ·exact .inr (.inr ⟨h1, .inl h⟩)
theorem lexlt_trans {x y z : Arc} (h1 : lexlt x y = true) (h2 : lexlt y z = true) : lexlt x z = true := by
 rw [lexlt_iff] at *; omega
theorem LSrt.ins {l : List Arc} (h : LSrt l) (a : Arc) : LSrt (insL l a) := by
 unfold insL LSrt
 rw [List.pairwise_append]
 refine ⟨List.Pairwise.filter _ h, ?_, ?_⟩
 ·rw [List.pairwise_cons]
  exact ⟨fun x hx => (List.mem_filter.1 hx).2, List.Pairwise.filter _ h⟩
 ·intro x hx y hy
  have h1 := (List.mem_filter.1 hx).2
  rcases List.mem_cons.1 hy with e | hy
  ·subst e; exact h1
  ·exact lexlt_trans h1 (List.mem_filter.1 hy).2
theorem OkL.ins {n : Nat} {l : List Arc} (h : OkL n l) {a : Arc} (ha : mayA n a) : OkL n (insL l a) :=
 ⟨h.srt.ins a, fun x hx => by rcases mem_insL.1 hx with rfl | ⟨h1, _⟩; exact ha; exact h.may x h1⟩
theorem OkL.filter {n : Nat} {l : List Arc} (h : OkL n l) (p : Arc → Bool) : OkL n (l.filter p) := ⟨List.Pairwise.filter _ h.srt, fun x hx => h.may x (List.mem_filter.1 hx).1⟩
theorem OkL.cut {n : Nat} {l : List Arc} (h : OkL n l) (v : Int) : OkL n (cutL l v) := h.filter _
theorem OkL.nil (n : Nat) : OkL n [] := ⟨List.Pairwise.nil, by simp⟩
theorem LSrt.ext {l m : List Arc} (h : LSrt l) (h' : LSrt m) (he : ∀ x, x ∈ l ↔ x ∈ m) : l = m :=
 pairwise_ext (fun a h => by rw [lexlt_iff] at h; omega) (fun a b h1 h2 => by rw [lexlt_iff] at h1 h2; omega) h h' he
theorem Srt.ext {k : Arc → Int} {l m : List Arc} (h : Srt k l) (h' : Srt k m) (he : ∀ x, x ∈ l ↔ x ∈ m) : l = m :=
 pairwise_ext (fun a h => by omega) (fun a b h1 h2 => by omega) h h' he
theorem mem_outL {l : List Arc} {v : Int} {x : Arc} : x ∈ outL l v ↔ x ∈ l ∧ x.f = v := by simp [outL]
theorem mem_inL {l : List Arc} {v : Int} {x : Arc} : x ∈ inL l v ↔ x ∈ l ∧ x.t = v := by simp [inL]
theorem mem_cutL {l : List Arc} {v : Int} {x : Arc} : x ∈ cutL l v ↔ x ∈ l ∧ x.f ≠ v ∧ x.t ≠ v := by simp [cutL]
theorem outL_ins {l : List Arc} (h : LSrt l) (a : Arc) (v : Int) : outL (insL l a) v = if v = a.f then insBy Arc.t (outL l v) a else outL l v := by
 split
 ·rename_i hv
  subst hv
  refine ((h.ins a).out _).ext ((h.out _).ins a) fun x => ?_
  simp only [mem_outL, mem_insL, mem_insBy]
  constructor
  ·rintro ⟨rfl | ⟨h1, h2⟩, h3⟩
   ·exact .inl rfl
   ·exact .inr ⟨⟨h1, h3⟩, fun h => h2 ⟨h3, h⟩⟩
  ·rintro (rfl | ⟨⟨h1, h2⟩, h3⟩)
   ·exact ⟨.inl rfl, rfl⟩
   ·exact ⟨.inr ⟨h1, fun h => h3 h.2⟩, h2⟩
 ·rename_i hv
  refine ((h.ins a).out _).ext (h.out _) fun x => ?_
  simp only [mem_outL, mem_insL]
  constructor
  ·rintro ⟨rfl | ⟨h1, h2⟩, h3⟩
   ·exact absurd h3.symm hv
   ·exact ⟨h1, h3⟩
  ·rintro ⟨h1, h2⟩
   exact ⟨.inr ⟨h1, fun h => hv (by rw [← h2, h.1])⟩, h2⟩
theorem inL_ins {l : List Arc} (h : LSrt l) (a : Arc) (v : Int) : inL (insL l a) v = if v = a.t then insBy Arc.f (inL l v) a else inL l v := by
 split
 ·rename_i hv
  subst hv
  refine ((h.ins a).inn _).ext ((h.inn _).ins a) fun x => ?_
  simp only [mem_inL, mem_insL, mem_insBy]
  constructor
  ·rintro ⟨rfl | ⟨h1, h2⟩, h3⟩
   ·exact .inl rfl
   ·exact .inr ⟨⟨h1, h3⟩, fun h => h2 ⟨h, h3⟩⟩
  ·rintro (rfl | ⟨⟨h1, h2⟩, h3⟩)
   ·exact ⟨.inl rfl, rfl⟩
   ·exact ⟨.inr ⟨h1, fun h => h3 h.1⟩, h2⟩
 ·rename_i hv
  refine ((h.ins a).inn _).ext (h.inn _) fun x => ?_
  simp only [mem_inL, mem_insL]
  constructor
  ·rintro ⟨rfl | ⟨h1, h2⟩, h3⟩
   ·exact absurd h3.symm hv
   ·exact ⟨h1, h3⟩
  ·rintro ⟨h1, h2⟩
   exact ⟨.inr ⟨h1, fun h => hv (by rw [← h2, h.2])⟩, h2⟩
theorem findL_some {l : List Arc} {f t : Int} {x : Arc} (h : findL l f t = some x) : x ∈ l ∧ x.f = f ∧ x.t = t := by
 have h1 := List.find?_some h
 simp at h1
 exact ⟨List.mem_of_find?_eq_some h, h1.1, h1.2⟩
theorem findL_none {l : List Arc} {f t : Int} (h : findL l f t = none) : ∀ x ∈ l, ¬ (x.f = f ∧ x.t = t) := by
 intro x hx hk
 have := List.find?_eq_none.1 h x hx
 simp [hk] at this
theorem findL_eq {l : List Arc} (hs : LSrt l) {x : Arc} (hx : x ∈ l) : findL l x.f x.t = some x := by
 cases h : findL l x.f x.t with
 | none => exact absurd ⟨rfl, rfl⟩ (findL_none h x hx)
 | some y =>
  obtain ⟨h1, h2, h3⟩ := findL_some h
  congr 1
  have hp := List.pairwise_iff_getElem.1 hs
  obtain ⟨p, hp1, hp2⟩ := List.mem_iff_getElem.1 h1
  obtain ⟨q, hq1, hq2⟩ := List.mem_iff_getElem.1 hx
  rcases Nat.lt_trichotomy p q with hlt | heq | hlt
  ·have := hp p q hp1 hq1 hlt; rw [hp2, hq2, lexlt_iff] at this; omega
  ·subst heq; rw [← hp2, ← hq2]
  ·have := hp q p hq1 hp1 hlt; rw [hp2, hq2, lexlt_iff] at this; omega
theorem putL_ok {n : Nat} {l : List Arc} (h : OkL n l) (a : Arc) : OkL n (putL n l a).1 := by
 unfold putL
 split
 ·rename_i ha
  split
  ·split
   ·exact h
   ·exact h.ins ha
  ·exact h.ins ha
 ·exact h
theorem flat_outL {n : Nat} {l : List Arc} (h : OkL n l) : (List.range n).flatMap (fun v : Nat => outL l (v : Int)) = l := by
 refine LSrt.ext ?_ h.srt fun x => ?_
 ·unfold LSrt
  rw [List.pairwise_flatMap]
  refine ⟨fun v _ => ?_, ?_⟩
  ·exact List.Pairwise.filter _ h.srt
  ·have : (List.range n).Pairwise (· < ·) := List.pairwise_lt_range
   refine List.Pairwise.imp (fun {u v} huv x hx y hy => ?_) this
   rw [mem_outL] at hx hy
   rw [lexlt_iff]
   omega
 ·simp only [List.mem_flatMap, List.mem_range, mem_outL]
  constructor
  ·rintro ⟨v, _, h1, _⟩; exact h1
  ·intro hx
   have := h.may x hx
   unfold mayA at this
   exact ⟨x.f.toNat, by omega, hx, by omega⟩
theorem srt_len {k : Arc → Int} {l : List Arc} (h : Srt k l) {n : Nat} (hk : ∀ x ∈ l, 0 ≤ k x ∧ k x < n) : l.length ≤ n := by
 have key : ∀ (i : Nat) (x : Arc), l[i]? = some x → (i : Int) ≤ k x := by
  intro i
  induction i with
  | zero => intro x hx; exact (hk x (List.mem_of_getElem? hx)).1
  | succ i ih =>
   intro x hx
   have hi : i < l.length := by have := (List.getElem?_eq_some_iff.1 hx).1; omega
   have h1 := ih _ (List.getElem?_eq_getElem hi)
   have h2 := h.get (Nat.lt_succ_self i) (List.getElem?_eq_getElem hi) hx
   omega
 rcases Nat.eq_zero_or_pos l.length with h0 | h0
 ·omega
 ·have hi : l.length - 1 < l.length := by omega
  have h1 := key _ _ (List.getElem?_eq_getElem hi)
  have h2 := (hk _ (List.getElem_mem hi)).2
  omega
theorem OkL.out_len {n : Nat} {l : List Arc} (h : OkL n l) (v : Int) : (outL l v).length ≤ n := srt_len (h.srt.out v) fun x hx => by
 have := h.may x (mem_outL.1 hx).1
 exact ⟨this.2.2.1, this.2.2.2.1⟩
theorem OkL.in_len {n : Nat} {l : List Arc} (h : OkL n l) (v : Int) : (inL l v).length ≤ n := srt_len (h.srt.inn v) fun x hx => by
 have := h.may x (mem_inL.1 hx).1
 exact ⟨this.1, this.2.1⟩
def putAll (n : Nat) (l : List Arc) (xs : List Arc) : List Arc := xs.foldl (fun l a => (putL n l a).1) l
theorem putAll_ok {n : Nat} : ∀ (xs : List Arc) {l : List Arc}, OkL n l → OkL n (putAll n l xs)
 | [], _, h => h
 | a :: xs, _, h => putAll_ok xs (putL_ok h a)
theorem putAll_snoc (n : Nat) (l xs : List Arc) (a : Arc) : putAll n l (xs ++ [a]) = (putL n (putAll n l xs) a).1 := by simp [putAll]
theorem putAll_self {n : Nat} : ∀ {xs p : List Arc}, OkL n (p ++ xs) → putAll n p xs = p ++ xs
 | [], p, _ => by simp [putAll]
 | a :: xs, p, h => by
  have hsp : LSrt (p ++ a :: xs) := h.srt
  unfold LSrt at hsp
  rw [List.pairwise_append] at hsp
  have hlt : ∀ x ∈ p, lexlt x a = true := fun x hx => hsp.2.2 x hx a (by simp)
  have hno : findL p a.f a.t = none := by
   cases hf : findL p a.f a.t with
   | none => rfl
   | some x =>
    obtain ⟨h1, h2, h3⟩ := findL_some hf
    have := hlt x h1
    rw [lexlt_iff] at this; omega
  have he : (putL n p a).1 = p ++ [a] := by
   unfold putL
   rw [if_pos (h.may a (by simp)), hno]
   unfold insL
   have e1 : p.filter (fun x => lexlt x a) = p := List.filter_eq_self.2 hlt
   have e2 : p.filter (fun x => lexlt a x) = [] := List.filter_eq_nil_iff.2 fun x hx hn => by
    have := hlt x hx
    rw [lexlt_iff] at this hn; omega
   rw [e1, e2]
  have h' : OkL n ((p ++ [a]) ++ xs) := by simpa using h
  have := putAll_self (xs := xs) (p := p ++ [a]) h'
  show putAll n (putL n p a).1 xs = _
  rw [he, this]; simp
structure LowL (l : List Arc) (f t : Int) (i : Nat) : Prop where
 le : i ≤ l.length
 lo : ∀ p x, p < i → l[p]? = some x → x.f < f ∨ (x.f = f ∧ x.t < t)
 hi : ∀ p x, i ≤ p → l[p]? = some x → ¬ (x.f < f ∨ (x.f = f ∧ x.t < t))
theorem LSrt.get {l : List Arc} (h : LSrt l) {p q : Nat} {x y : Arc} (hpq : p < q) (hx : l[p]? = some x) (hy : l[q]? = some y) : x.f < y.f ∨ (x.f = y.f ∧ x.t < y.t) := by
 have := List.pairwise_iff_getElem.1 h
 obtain ⟨hp1, hp2⟩ := List.getElem?_eq_some_iff.1 hx
 obtain ⟨hq1, hq2⟩ := List.getElem?_eq_some_iff.1 hy
 have := this p q hp1 hq1 hpq
 rw [hp2, hq2] at this
 exact lexlt_iff.1 this
theorem LowL.found {l : List Arc} (hs : LSrt l) {f t : Int} {i : Nat} (h : LowL l f t i) {x : Arc} (hx : x ∈ l) (hf : x.f = f) (ht : x.t = t) : l[i]? = some x := by
 obtain ⟨p, hp⟩ := List.mem_iff_getElem?.1 hx
 have h2 : i ≤ p := by
  apply Nat.le_of_not_lt
  intro hlt
  have := h.lo p x hlt hp
  omega
 rcases Nat.eq_or_lt_of_le h2 with e | hlt
 ·rw [e]; exact hp
 ·have hjl : i < l.length := by have := (List.getElem?_eq_some_iff.1 hp).1; omega
  have h3 := h.hi i l[i] (Nat.le_refl _) (List.getElem?_eq_getElem hjl)
  have h4 := hs.get hlt (List.getElem?_eq_getElem hjl) hp
  omega
theorem LowL.split {l : List Arc} {f t : Int} {i : Nat} (h : LowL l f t i) : l.take i = l.filter (fun x => decide (x.f < f ∨ (x.f = f ∧ x.t < t))) ∧ l.drop i = l.filter (fun x => !decide (x.f < f ∨ (x.f = f ∧ x.t < t))) := by
 have := filter_split (l := l) (i := i) (p := fun x => decide (x.f < f ∨ (x.f = f ∧ x.t < t))) (fun x hx => by
  obtain ⟨p, hp⟩ := List.mem_iff_getElem?.1 hx
  have hlt : p < i := by have := (List.getElem?_eq_some_iff.1 hp).1; simp at this; omega
  rw [List.getElem?_take_of_lt hlt] at hp
  exact decide_eq_true (h.lo p x hlt hp)) (fun x hx => by
  obtain ⟨p, hp⟩ := List.mem_iff_getElem?.1 hx
  rw [List.getElem?_drop] at hp
  exact decide_eq_false (h.hi (i + p) x (by omega) hp))
 exact ⟨this.1.symm, this.2.symm⟩
theorem LowL.ins_new {l : List Arc} {a : Arc} {i : Nat} (h : LowL l a.f a.t i) (hn : ∀ x ∈ l, ¬ (x.f = a.f ∧ x.t = a.t)) : l.take i ++ [a] ++ l.drop i = insL l a := by
 unfold insL
 rw [h.split.1, h.split.2]
 simp only [List.append_assoc, List.cons_append, List.nil_append]
 congr 1
 ·exact List.filter_congr fun x _ => by simp [lexlt]
 ·congr 1
  refine List.filter_congr fun x hx => ?_
  have := hn x hx
  apply Bool.eq_iff_iff.2
  simp only [Bool.not_eq_true', decide_eq_false_iff_not, lexlt_iff]
  omega
theorem LowL.ins_at {l : List Arc} (hs : LSrt l) {a : Arc} {i : Nat} (h : LowL l a.f a.t i) {x : Arc} (hx : x ∈ l) (hf : x.f = a.f) (ht : x.t = a.t) : l.set i a = insL l a := by
 have hxi := h.found hs hx hf ht
 have hi : i < l.length := (List.getElem?_eq_some_iff.1 hxi).1
 have h2 : LowL l a.f (a.t + 1) (i + 1) := by
  refine ⟨hi, fun p y hp hy => ?_, fun p y hp hy => ?_⟩
  ·rcases Nat.eq_or_lt_of_le (show p ≤ i by omega) with e | hlt
   ·subst e; rw [hxi] at hy; cases hy; omega
   ·have := h.lo p y hlt hy; omega
  ·have := hs.get (show i < p by omega) hxi hy; omega
 unfold insL
 rw [List.set_eq_take_append_cons_drop, if_pos hi, h.split.1, h2.split.2]
 congr 1
 ·exact List.filter_congr fun x _ => by simp [lexlt]
 ·congr 1
  refine List.filter_congr fun y hy => ?_
  apply Bool.eq_iff_iff.2
  simp only [Bool.not_eq_true', decide_eq_false_iff_not, lexlt_iff]
  omega
theorem flat_len {α β : Type} (f : α → List β) (n : Nat) : ∀ l : List α, (∀ x ∈ l, (f x).length ≤ n) → (l.flatMap f).length ≤ l.length * n
 | [], _ => by simp
 | x :: l, h => by
  have := flat_len f n l fun y hy => h y (by simp [hy])
  have := h x (by simp)
  simp only [List.flatMap_cons, List.length_append, List.length_cons, Nat.add_mul]
  omega
theorem OkL.len {n : Nat} {l : List Arc} (h : OkL n l) (hn : n ≤ 512) : l.length ≤ 262144 := by
 have h1 := flat_len (fun v : Nat => outL l (v : Int)) n (List.range n) fun v _ => h.out_len v
 rw [flat_outL h, List.length_range] at h1
 have h2 : n * n ≤ 512 * 512 := Nat.mul_le_mul hn hn
 omega
end Go.Den

namespace Go.Den
open Go
structure It where
 id : Int
 key : Int
 deriving DecidableEq
def itlt (x y : It) : Bool := decide (x.key < y.key) || (decide (x.key = y.key) && decide (x.id < y.id))
theorem itlt_iff {x y : It} : itlt x y = true ↔ x.key < y.key ∨ (x.key = y.key ∧ x.id < y.id) := by simp [itlt]
theorem itlt_tri (x y : It) : itlt x y = true ∨ x = y ∨ itlt y x = true := by
 obtain ⟨a, b⟩ := x
 obtain ⟨c, d⟩ := y
 simp only [itlt_iff, It.mk.injEq]
 omega
abbrev QSrt (q : List It) : Prop := q.Pairwise fun x y => itlt x y = true
theorem QSrt.ext {l m : List It} (h : QSrt l) (h' : QSrt m) (he : ∀ x, x ∈ l ↔ x ∈ m) : l = m :=
 pairwise_ext (fun a h => by rw [itlt_iff] at h; omega) (fun a b h h' => by rw [itlt_iff] at h h'; omega) h h' he
def insQ (q : List It) (x : It) : List It := q.filter (fun y => itlt y x) ++ x :: q.filter (fun y => itlt x y)
theorem mem_insQ {q : List It} {x y : It} : y ∈ insQ q x ↔ y = x ∨ y ∈ q := by
 unfold insQ
 simp only [List.mem_append, List.mem_cons, List.mem_filter]
 constructor
 ·rintro (⟨h, _⟩ | rfl | ⟨h, _⟩) <;> simp_all
 ·rintro (rfl | h)
  ·simp
  ·rcases itlt_tri y x with h1 | rfl | h1 <;> simp_all
theorem QSrt.ins {q : List It} (h : QSrt q) (x : It) : QSrt (insQ q x) := by
 unfold insQ QSrt
 rw [List.pairwise_append]
 refine ⟨List.Pairwise.filter _ h, ?_, fun a ha b hb => ?_⟩
 ·rw [List.pairwise_cons]
  exact ⟨fun b hb => (List.mem_filter.1 hb).2, List.Pairwise.filter _ h⟩
 ·have h1 := itlt_iff.1 (List.mem_filter.1 ha).2
  rcases List.mem_cons.1 hb with rfl | hb
  ·exact itlt_iff.2 h1
  ·have h2 := itlt_iff.1 (List.mem_filter.1 hb).2
   rw [itlt_iff]; omega
def One (q : List It) : Prop := ∀ x ∈ q, ∀ y ∈ q, x.id = y.id → x = y
def keyQ (q : List It) (v : Int) : Option Int := (q.find? fun y => decide (y.id = v)).map (·.key)
theorem keyQ_some {q : List It} {v k : Int} (h : keyQ q v = some k) : ⟨v, k⟩ ∈ q := by
 unfold keyQ at h
 cases hf : q.find? (fun y => decide (y.id = v)) with
 | none => rw [hf] at h; cases h
 | some y =>
  rw [hf] at h
  have h1 := List.mem_of_find?_eq_some hf
  have h2 := List.find?_some hf
  obtain ⟨a, b⟩ := y
  simp at h h2
  subst h h2
  exact h1
theorem keyQ_none {q : List It} {v : Int} (h : keyQ q v = none) : ∀ x ∈ q, x.id ≠ v := by
 intro x hx
 unfold keyQ at h
 simp only [Option.map_eq_none_iff, List.find?_eq_none] at h
 simpa using h x hx
theorem keyQ_mem {q : List It} (h : One q) {x : It} (hx : x ∈ q) : keyQ q x.id = some x.key := by
 cases hk : keyQ q x.id with
 | none => exact absurd rfl (keyQ_none hk x hx)
 | some k => have := h _ (keyQ_some hk) x hx rfl; rw [← this]
def lowQ (q : List It) (v k : Int) : Bool := match keyQ q v with
 | some k0 => decide (k0 ≤ k)
 | none => false
def pushQ (q : List It) (v k : Int) : List It × Bool := if lowQ q v k then (q, false) else (insQ (q.filter fun y => decide (y.id ≠ v)) ⟨v, k⟩, true)
theorem push_mem {q : List It} {v k : Int} {y : It} (h : y ∈ (pushQ q v k).1) : y ∈ q ∨ y = ⟨v, k⟩ := by
 unfold pushQ at h
 split at h
 ·exact .inl h
 ·rcases mem_insQ.1 h with rfl | h
  ·exact .inr rfl
  ·exact .inl (List.mem_filter.1 h).1
theorem push_keep {q : List It} (h1 : One q) {v k : Int} {x : It} (hx : x ∈ q) : ∃ y ∈ (pushQ q v k).1, y.id = x.id ∧ y.key ≤ x.key := by
 unfold pushQ
 split
 ·exact ⟨x, hx, rfl, Int.le_refl _⟩
 ·rename_i hl
  by_cases e : x.id = v
  ·refine ⟨⟨v, k⟩, mem_insQ.2 (.inl rfl), e.symm, ?_⟩
   have := keyQ_mem h1 hx
   unfold lowQ at hl
   rw [← e, this] at hl
   simp at hl
   show k ≤ x.key
   omega
  ·exact ⟨x, mem_insQ.2 (.inr (List.mem_filter.2 ⟨hx, by simpa using e⟩)), rfl, Int.le_refl _⟩
theorem push_low {q : List It} {v k : Int} : ∃ y ∈ (pushQ q v k).1, y.id = v ∧ y.key ≤ k := by
 unfold pushQ
 split
 ·rename_i hl
  unfold lowQ at hl
  cases hk : keyQ q v with
  | none => rw [hk] at hl; cases hl
  | some k0 => rw [hk] at hl; exact ⟨⟨v, k0⟩, keyQ_some hk, rfl, by simpa using hl⟩
 ·exact ⟨⟨v, k⟩, mem_insQ.2 (.inl rfl), rfl, Int.le_refl _⟩
theorem push_srt {q : List It} (h : QSrt q) (v k : Int) : QSrt (pushQ q v k).1 := by
 unfold pushQ
 split
 ·exact h
 ·exact QSrt.ins (List.Pairwise.filter _ h) _
theorem push_one {q : List It} (h : One q) (v k : Int) : One (pushQ q v k).1 := by
 unfold pushQ
 split
 ·exact h
 ·intro x hx y hy e
  rcases mem_insQ.1 hx with rfl | hx <;> rcases mem_insQ.1 hy with rfl | hy
  ·rfl
  ·have := (List.mem_filter.1 hy).2; simp at this; exact absurd e.symm this
  ·have := (List.mem_filter.1 hx).2; simp at this; exact absurd e this
  ·exact h x (List.mem_filter.1 hx).1 y (List.mem_filter.1 hy).1 e
inductive Walk (L : List Arc) (c a : Int) : Int → Int → Prop where
 | nil : Walk L c a a 0
 | snoc {v d : Int} (e : Arc) (h : Walk L c a v d) (he : e ∈ L) (hf : e.f = v) (ht : e.t ≠ c) : Walk L c a e.t (d + e.w)
def isIn (s : List It) (v : Int) : Bool := s.any fun x => decide (x.id = v)
theorem isIn_iff {s : List It} {v : Int} : isIn s v = true ↔ ∃ x ∈ s, x.id = v := by simp [isIn]
def pushes (c : Int) (s : List It) (d : Int) (q : List It) (l : List Arc) : List It := l.foldl (fun q a => if a.t = c ∨ isIn s a.t = true then q else (pushQ q a.t (d + a.w)).1) q
def stepQ (L : List Arc) (c : Int) (z : List It × List It) : List It × List It := match z.1 with
 | [] => ([], z.2)
 | x :: q => (pushes c (z.2 ++ [x]) x.key q (outL L x.id), z.2 ++ [x])
def runQ (L : List Arc) (c a : Int) : Nat → List It × List It
 | 0 => ([⟨a, 0⟩], [])
 | n + 1 => stepQ L c (runQ L c a n)
theorem pushes_snoc (c : Int) (s : List It) (d : Int) (q : List It) (l : List Arc) (a : Arc) : pushes c s d q (l ++ [a]) = if a.t = c ∨ isIn s a.t = true then pushes c s d q l else (pushQ (pushes c s d q l) a.t (d + a.w)).1 := by simp [pushes]
theorem pushes_cons (c : Int) (s : List It) (d : Int) (q : List It) (l : List Arc) (a : Arc) : pushes c s d q (a :: l) = pushes c s d (if a.t = c ∨ isIn s a.t = true then q else (pushQ q a.t (d + a.w)).1) l := rfl
theorem pushes_ok {c : Int} {s : List It} {d : Int} : ∀ {l : List Arc} {q : List It}, QSrt q → One q → QSrt (pushes c s d q l) ∧ One (pushes c s d q l) ∧
  (∀ y ∈ pushes c s d q l, y ∈ q ∨ ∃ e ∈ l, e.t ≠ c ∧ isIn s e.t = false ∧ y = ⟨e.t, d + e.w⟩) ∧ (∀ x ∈ q, ∃ y ∈ pushes c s d q l, y.id = x.id ∧ y.key ≤ x.key) ∧
  (∀ e ∈ l, e.t ≠ c → isIn s e.t = false → ∃ y ∈ pushes c s d q l, y.id = e.t ∧ y.key ≤ d + e.w)
 | [], q, h1, h2 => ⟨h1, h2, fun y hy => .inl hy, fun x hx => ⟨x, hx, rfl, Int.le_refl _⟩, by simp⟩
 | a :: l, q, h1, h2 => by
  rw [pushes_cons]
  by_cases hc : a.t = c ∨ isIn s a.t = true
  ·rw [if_pos hc]
   obtain ⟨g1, g2, g3, g4, g5⟩ := pushes_ok (c := c) (s := s) (d := d) (l := l) h1 h2
   refine ⟨g1, g2, fun y hy => (g3 y hy).imp id fun ⟨e, he, r⟩ => ⟨e, by simp [he], r⟩, g4, fun e he n1 n2 => ?_⟩
   rcases List.mem_cons.1 he with rfl | he
   ·rcases hc with hc | hc
    ·exact absurd hc n1
    ·rw [hc] at n2; cases n2
   ·exact g5 e he n1 n2
  ·rw [if_neg hc]
   obtain ⟨g1, g2, g3, g4, g5⟩ := pushes_ok (c := c) (s := s) (d := d) (l := l) (push_srt h1 a.t (d + a.w)) (push_one h2 a.t (d + a.w))
   have hc1 : a.t ≠ c := fun e => hc (.inl e)
   have hc2 : isIn s a.t = false := by cases h : isIn s a.t with
    | false => rfl
    | true => exact absurd (.inr h) hc
   refine ⟨g1, g2, fun y hy => ?_, fun x hx => ?_, fun e he n1 n2 => ?_⟩
   ·rcases g3 y hy with hq | ⟨e, he, r⟩
    ·rcases push_mem hq with hq | rfl
     ·exact .inl hq
     ·exact .inr ⟨a, by simp, hc1, hc2, rfl⟩
    ·exact .inr ⟨e, by simp [he], r⟩
   ·obtain ⟨y, hy, e1, e2⟩ := push_keep h2 (v := a.t) (k := d + a.w) hx
    obtain ⟨z, hz, e3, e4⟩ := g4 y hy
    exact ⟨z, hz, e3.trans e1, Int.le_trans e4 e2⟩
   ·rcases List.mem_cons.1 he with rfl | he
    ·obtain ⟨y, hy, e1, e2⟩ := push_low (q := q) (v := e.t) (k := d + e.w)
     obtain ⟨z, hz, e3, e4⟩ := g4 y hy
     exact ⟨z, hz, e3.trans e1, Int.le_trans e4 e2⟩
    ·exact g5 e he n1 n2
structure SInv (m : Nat) (L : List Arc) (c a : Int) (q s : List It) : Prop where
 srt : QSrt q
 one : One q
 dis : (s.map (·.id)).Nodup
 far : ∀ x ∈ q, isIn s x.id = false
 walk : ∀ x ∈ s ++ q, Walk L c a x.id x.key
 src : ⟨a, 0⟩ ∈ s ++ q
 clo : ∀ x ∈ s, ∀ e ∈ L, e.f = x.id → e.t ≠ c → ∃ y ∈ s ++ q, y.id = e.t ∧ y.key ≤ x.key + e.w
 mono : ∀ x ∈ s, ∀ y ∈ q, x.key ≤ y.key
 low : ∀ x ∈ s, ∀ d, Walk L c a x.id d → x.key ≤ d
 bnd : ∀ x ∈ s ++ q, 0 ≤ x.key ∧ x.key ≤ s.length * 1099511627776 ∧ 0 ≤ x.id ∧ x.id < m
theorem SInv.reach {m : Nat} {L : List Arc} {c a : Int} {q s : List It} (h : SInv m L c a q s) (hL : OkL m L) {v d : Int} (hw : Walk L c a v d) : (∃ x ∈ s, x.id = v ∧ x.key ≤ d) ∨ ∃ y ∈ q, y.key ≤ d := by
 induction hw with
 | nil =>
  rcases List.mem_append.1 h.src with hs | hq
  ·exact .inl ⟨_, hs, rfl, Int.le_refl _⟩
  ·exact .inr ⟨_, hq, Int.le_refl _⟩
 | snoc e _ he hf ht ih =>
  rcases ih with ⟨x, hx, hv, hd⟩ | ⟨y, hy, hd⟩
  ·obtain ⟨y, hy, e1, e2⟩ := h.clo x hx e he (hf.trans hv.symm) ht
   rcases List.mem_append.1 hy with hs | hq
   ·exact .inl ⟨y, hs, e1, by omega⟩
   ·exact .inr ⟨y, hq, by omega⟩
  ·have := (hL.may e he).2.2.2.2.2.1
   exact .inr ⟨y, hy, by omega⟩
theorem SInv.step {m : Nat} {L : List Arc} {c a : Int} {q s : List It} (h : SInv m L c a q s) (hL : OkL m L) : SInv m L c a (stepQ L c (q, s)).1 (stepQ L c (q, s)).2 := by
 cases q with
 | nil => exact h
 | cons x q =>
  have hq := List.pairwise_cons.1 h.srt
  have hone : One q := fun y hy z hz => h.one y (by simp [hy]) z (by simp [hz])
  obtain ⟨g1, g2, g3, g4, g5⟩ := pushes_ok (c := c) (s := s ++ [x]) (d := x.key) (l := outL L x.id) hq.2 hone
  show SInv m L c a (pushes c (s ++ [x]) x.key q (outL L x.id)) (s ++ [x])
  generalize pushes c (s ++ [x]) x.key q (outL L x.id) = p at *
  have hxs : isIn s x.id = false := h.far x (by simp)
  have hxw := h.walk x (by simp)
  have hxb := h.bnd x (by simp)
  have inS : ∀ v, isIn (s ++ [x]) v = false ↔ isIn s v = false ∧ x.id ≠ v := fun v => by simp [isIn]
  have low : ∀ d, Walk L c a x.id d → x.key ≤ d := fun d hw => by
   rcases h.reach hL hw with ⟨y, hy, hv, _⟩ | ⟨y, hy, hd⟩
   ·have : isIn s x.id = true := isIn_iff.2 ⟨y, hy, hv⟩
    rw [hxs] at this; cases this
   ·rcases List.mem_cons.1 hy with rfl | hy
    ·exact hd
    ·have := itlt_iff.1 (hq.1 y hy); omega
  have hold : ∀ y ∈ s ++ (x :: q), ∃ z ∈ s ++ [x] ++ p, z.id = y.id ∧ z.key ≤ y.key := fun y hy => by
   rcases List.mem_append.1 hy with hy | hy
   ·exact ⟨y, by simp [hy], rfl, Int.le_refl _⟩
   ·rcases List.mem_cons.1 hy with rfl | hy
    ·exact ⟨y, by simp, rfl, Int.le_refl _⟩
    ·obtain ⟨z, hz, r⟩ := g4 y hy
     exact ⟨z, by simp [hz], r⟩
  refine ⟨g1, g2, ?_, ?_, ?_, ?_, ?_, ?_, ?_, ?_⟩
  ·rw [List.map_append, List.nodup_append]
   refine ⟨h.dis, by simp, fun u hu v hv => ?_⟩
   simp at hv
   subst hv
   obtain ⟨y, hy, rfl⟩ := List.mem_map.1 hu
   intro e
   have : isIn s x.id = true := isIn_iff.2 ⟨y, hy, e⟩
   rw [hxs] at this; cases this
  ·intro y hy
   rcases g3 y hy with hyq | ⟨e, _, _, h2, rfl⟩
   ·refine (inS _).2 ⟨h.far y (by simp [hyq]), fun e => ?_⟩
    have := h.one x (by simp) y (by simp [hyq]) e
    subst this
    have := itlt_iff.1 (hq.1 x hyq); omega
   ·exact h2
  ·intro y hy
   rcases List.mem_append.1 hy with hy | hy
   ·exact h.walk y (by rcases List.mem_append.1 hy with hy | hy <;> simp_all)
   ·rcases g3 y hy with hyq | ⟨e, he, h1, _, rfl⟩
    ·exact h.walk y (by simp [hyq])
    ·obtain ⟨heL, hef⟩ := mem_outL.1 he
     exact Walk.snoc e hxw heL hef h1
  ·rcases List.mem_append.1 h.src with hs | hs
   ·simp [hs]
   ·rcases List.mem_cons.1 hs with hs | hs
    ·simp [hs]
    ·-- the first one is the source itself till it is settled
     obtain ⟨z, hz, e1, e2⟩ := g4 _ hs
     have := low 0
     have hk := itlt_iff.1 (hq.1 _ hs)
     have := hxb.1
     simp only at hk e1 e2
     have hzb : 0 ≤ z.key := by
      rcases g3 z hz with hzq | ⟨e, he, _, _, rfl⟩
      ·exact (h.bnd z (by simp [hzq])).1
      ·have := (hL.may e (mem_outL.1 he).1).2.2.2.2.2.1; show 0 ≤ x.key + e.w; omega
     have : z = ⟨a, 0⟩ := by obtain ⟨i, k⟩ := z; simp only at *; subst e1; congr 1; omega
     rw [← this]; simp [hz]
  ·intro y hy e he hf ht
   rcases List.mem_append.1 hy with hy | hy
   ·obtain ⟨z, hz, e1, e2⟩ := h.clo y hy e he hf ht
    obtain ⟨u, hu, e3, e4⟩ := hold z hz
    exact ⟨u, hu, e3.trans e1, Int.le_trans e4 e2⟩
   ·simp at hy
    subst hy
    cases hin : isIn (s ++ [y]) e.t with
    | false =>
     obtain ⟨z, hz, r⟩ := g5 e (mem_outL.2 ⟨he, hf⟩) ht hin
     exact ⟨z, by simp [hz], r⟩
    | true =>
     obtain ⟨z, hz, hzt⟩ := isIn_iff.1 hin
     refine ⟨z, by simp only [List.mem_append]; exact .inl (by simpa using hz), hzt, ?_⟩
     have hw := Walk.snoc e hxw he hf ht
     rcases List.mem_append.1 hz with hz | hz
     ·exact h.low z hz _ (hzt ▸ hw)
     ·simp at hz; subst hz
      exact low _ (hzt ▸ hw)
  ·intro y hy z hz
   have hxz : x.key ≤ z.key := by
    rcases g3 z hz with hzq | ⟨e, he, _, _, rfl⟩
    ·have := itlt_iff.1 (hq.1 z hzq); omega
    ·have := (hL.may e (mem_outL.1 he).1).2.2.2.2.2.1; show x.key ≤ x.key + e.w; omega
   rcases List.mem_append.1 hy with hy | hy
   ·exact Int.le_trans (h.mono y hy x (by simp)) hxz
   ·simp at hy; subst hy; exact hxz
  ·intro y hy
   rcases List.mem_append.1 hy with hy | hy
   ·exact h.low y hy
   ·simp at hy; subst hy; exact low
  ·have len : (s ++ [x]).length = s.length + 1 := by simp
   intro y hy
   rw [len]
   have old : ∀ y ∈ s ++ (x :: q), 0 ≤ y.key ∧ y.key ≤ ((s.length + 1 : Nat) : Int) * 1099511627776 ∧ 0 ≤ y.id ∧ y.id < m := fun y hy => by
    obtain ⟨b1, b2, b3⟩ := h.bnd y hy
    exact ⟨b1, by omega, b3⟩
   rcases List.mem_append.1 hy with hy | hy
   ·exact old y (by rcases List.mem_append.1 hy with hy | hy <;> simp_all)
   ·rcases g3 y hy with hyq | ⟨e, he, _, _, rfl⟩
    ·exact old y (by simp [hyq])
    ·have hm := hL.may e (mem_outL.1 he).1
     obtain ⟨_, _, m1, m2, _, m3, m4, _⟩ := hm
     refine ⟨?_, ?_, m1, m2⟩
     ·show 0 ≤ x.key + e.w; omega
     ·show x.key + e.w ≤ _; omega
theorem run_inv {m : Nat} {L : List Arc} (hL : OkL m L) (c : Int) {a : Int} (ha : 0 ≤ a) (ha' : a < m) : ∀ n, SInv m L c a (runQ L c a n).1 (runQ L c a n).2
 | 0 => by
  refine ⟨List.pairwise_singleton _ _, ?_, List.nodup_nil, by simp [runQ, isIn], ?_, by simp [runQ], by simp [runQ], by simp [runQ], by simp [runQ], ?_⟩
  ·intro x hx y hy _; simp [runQ] at hx hy; rw [hx, hy]
  ·intro x hx; simp [runQ] at hx; subst hx; exact Walk.nil
  ·intro x hx; simp [runQ] at hx; subst hx; exact ⟨Int.le_refl _, by simp [runQ], ha, ha'⟩
 | n + 1 => (run_inv hL c ha ha' n).step hL
theorem run_len (L : List Arc) (c a : Int) : ∀ n, (runQ L c a n).2.length = n ∨ ((runQ L c a n).1 = [] ∧ (runQ L c a n).2.length ≤ n)
  | 0 => .inl rfl
  | n + 1 => by
    have ih := run_len L c a n
    show (stepQ L c (runQ L c a n)).2.length = n + 1 ∨ ((stepQ L c (runQ L c a n)).1 = [] ∧ _)
    cases hz : runQ L c a n with
    | mk q s =>
      rw [hz] at ih
      cases q with
      | nil =>
        right
        refine ⟨rfl, ?_⟩
        show (runQ L c a (n + 1)).2.length ≤ n + 1
        have e : (runQ L c a (n + 1)).2 = s := by show (stepQ L c (runQ L c a n)).2 = s; rw [hz]; rfl
        rw [e]
        rcases ih with h | h
        · simp only at h; omega
        · have := h.2; simp only at this; omega
      | cons x q => left; rcases ih with h | ⟨h, _⟩
                    · simp [stepQ] at h ⊢; omega
                    · cases h
theorem nodup_len : ∀ {m : Nat} {l : List Int}, l.Nodup → (∀ x ∈ l, 0 ≤ x ∧ x < m) → l.length ≤ m
 | 0, l, _, hb => by
  cases l with
  | nil => simp
  | cons x l => have := hb x (by simp); omega
 | m + 1, l, h, hb => by
  have one : ∀ (l : List Int), l.Nodup → l.length ≤ (l.filter fun x => decide (x ≠ (m : Int))).length + 1 := by
   intro l
   induction l with
   | nil => intro _; simp
   | cons x l ih =>
    intro hn
    rw [List.nodup_cons] at hn
    by_cases e : x = (m : Int)
    ·have : l.filter (fun x => decide (x ≠ (m : Int))) = l := List.filter_eq_self.2 fun y hy => by
      simp only [ne_eq, decide_eq_true_eq]
      rintro rfl
      exact hn.1 (e ▸ hy)
     simp only [List.filter_cons]
     rw [this]
     simp [e]
    ·have := ih hn.2
     simp only [List.filter_cons, List.length_cons]
     rw [if_pos (by simpa using e)]
     simp only [List.length_cons]; omega
  have ih := nodup_len (m := m) (l := l.filter fun x => decide (x ≠ (m : Int))) (List.Pairwise.filter _ h) fun x hx => by
   have h1 := hb x (List.mem_filter.1 hx).1
   have h2 : x ≠ (m : Int) := by simpa using (List.mem_filter.1 hx).2
   omega
  have := one l h
  omega
theorem SInv.len {m : Nat} {L : List Arc} {c a : Int} {q s : List It} (h : SInv m L c a q s) : s.length ≤ m := by
 have := nodup_len h.dis fun v hv => by obtain ⟨x, hx, rfl⟩ := List.mem_map.1 hv; exact (h.bnd x (by simp [hx])).2.2
 simpa using this
theorem SInv.len_q {m : Nat} {L : List Arc} {c a : Int} {x : It} {q s : List It} (h : SInv m L c a (x :: q) s) : s.length < m := by
 have hn : ((s.map (·.id)) ++ [x.id]).Nodup := by
  rw [List.nodup_append]
  refine ⟨h.dis, by simp, fun u hu v hv => ?_⟩
  simp at hv; subst hv
  obtain ⟨y, hy, rfl⟩ := List.mem_map.1 hu
  intro e
  have := h.far x (by simp)
  rw [isIn_iff.2 ⟨y, hy, e⟩] at this; cases this
 have := nodup_len (m := m) hn fun v hv => by
  rcases List.mem_append.1 hv with hv | hv
  ·obtain ⟨y, hy, rfl⟩ := List.mem_map.1 hv; exact (h.bnd y (by simp [hy])).2.2
  ·simp at hv; subst hv; exact (h.bnd x (by simp)).2.2
 simp at this; omega
section
variable {m : Nat} {L : List Arc} (hL : OkL m L) (c : Int) {a : Int} (ha : 0 ≤ a) (ha' : a < m)
include hL ha ha'
theorem run_done {n : Nat} (hn : m ≤ n) : (runQ L c a n).1 = [] := by
 have hi := run_inv hL c ha ha' n
 cases hz : runQ L c a n with
 | mk q s =>
  rw [hz] at hi
  cases q with
  | nil => rfl
  | cons x q =>
   have h1 := hi.len_q
   rcases run_len L c a n with h | ⟨h, _⟩
   ·rw [hz] at h; simp only at h h1; omega
   ·rw [hz] at h; cases h
omit hL ha ha' in
theorem run_take (n : Nat) : ∀ k, (runQ L c a n).2 = ((runQ L c a (n + k)).2).take n
 | 0 => by
  rcases run_len L c a n with h | ⟨_, h⟩
  ·rw [Nat.add_zero, List.take_of_length_le (by omega)]
  ·rw [Nat.add_zero, List.take_of_length_le h]
 | k + 1 => by
  rw [run_take n k]
  show _ = (stepQ L c (runQ L c a (n + k))).2.take n
  have hl := run_len L c a (n + k)
  cases hz : runQ L c a (n + k) with
  | mk q s =>
   rw [hz] at hl
   cases q with
   | nil => rfl
   | cons x q =>
    rcases hl with h | ⟨h, _⟩
    ·simp only [stepQ] at h ⊢
     rw [List.take_append_of_le_length (by omega)]
    ·cases h
omit hL ha ha' in
def settled (m : Nat) (L : List Arc) (c a : Int) : List It := (runQ L c a m).2
theorem run_eq (n : Nat) : (runQ L c a n).2 = (settled m L c a).take n := by
 unfold settled
 rcases Nat.le_total n m with h | h
 ·obtain ⟨k, rfl⟩ : ∃ k, m = n + k := ⟨m - n, by omega⟩
  exact run_take c n k
 ·obtain ⟨k, rfl⟩ : ∃ k, n = m + k := ⟨n - m, by omega⟩
  rw [List.take_of_length_le (by have := (run_inv hL c ha ha' m).len; omega)]
  have hd := run_done hL c ha ha' (Nat.le_refl m)
  clear h
  induction k with
  | zero => rfl
  | succ k ih =>
   show (stepQ L c (runQ L c a (m + k))).2 = _
   have hk := run_done hL c ha ha' (n := m + k) (by omega)
   cases hz : runQ L c a (m + k) with
   | mk q s => rw [hz] at ih hk; simp only at hk; subst hk; exact ih
theorem settled_dist {v d : Int} : (⟨v, d⟩ : It) ∈ settled m L c a ↔ Walk L c a v d ∧ ∀ d', Walk L c a v d' → d ≤ d' := by
 have hi := run_inv hL c ha ha' m
 have hd := run_done hL c ha ha' (Nat.le_refl m)
 rw [hd] at hi
 constructor
 ·intro h
  exact ⟨hi.walk _ (List.mem_append.2 (.inl h)), hi.low _ h⟩
 ·rintro ⟨h1, h2⟩
  rcases hi.reach hL h1 with ⟨x, hx, rfl, hk⟩ | ⟨y, hy, _⟩
  ·have := hi.walk x (by simpa using hx)
   have := h2 _ this
   have : (⟨x.id, d⟩ : It) = x := by obtain ⟨i, k⟩ := x; simp only at *; congr 1; omega
   rw [this]; exact hx
  ·cases hy
theorem settled_reach {v d : Int} (h : Walk L c a v d) : ∃ k, k ≤ d ∧ (⟨v, k⟩ : It) ∈ settled m L c a := by
 have hi := run_inv hL c ha ha' m
 have hd := run_done hL c ha ha' (Nat.le_refl m)
 rw [hd] at hi
 rcases hi.reach hL h with ⟨x, hx, rfl, hk⟩ | ⟨y, hy, _⟩
 ·exact ⟨x.key, hk, hx⟩
 ·cases hy
theorem settled_one {x y : It} (hx : x ∈ settled m L c a) (hy : y ∈ settled m L c a) (e : x.id = y.id) : x = y := by
 have h1 := (settled_dist hL c ha ha' (v := x.id) (d := x.key)).1 hx
 have h2 := (settled_dist hL c ha ha' (v := y.id) (d := y.key)).1 hy
 obtain ⟨i, k⟩ := x
 obtain ⟨j, l⟩ := y
 simp only at e h1 h2
 subst e
 have := h1.2 _ h2.1
 have := h2.2 _ h1.1
 congr 1; omega
theorem settled_len : (settled m L c a).length ≤ m := (run_inv hL c ha ha' m).len
theorem settled_bnd {x : It} (hx : x ∈ settled m L c a) : 0 ≤ x.key ∧ x.key ≤ m * 1099511627776 ∧ 0 ≤ x.id ∧ x.id < m := by
 have hi := run_inv hL c ha ha' m
 have h1 := hi.bnd x (by simp only [List.mem_append]; exact .inl hx)
 have h2 := hi.len
 refine ⟨h1.1, ?_, h1.2.2⟩
 have : ((runQ L c a m).2.length : Int) * 1099511627776 ≤ (m : Int) * 1099511627776 := by omega
 omega
end
end Go.Den

namespace Go.Den
open Go
theorem Walk.mono {L M : List Arc} {c c' a v d : Int} (hs : ∀ e ∈ L, e.t ≠ c → e ∈ M ∧ e.t ≠ c') (h : Walk L c a v d) : Walk M c' a v d := by
 induction h with
 | nil => exact .nil
 | snoc e _ he hf ht ih => exact .snoc e ih (hs e he ht).1 hf (hs e he ht).2
theorem Walk.trans {L : List Arc} {c a v w d d' : Int} (h : Walk L c a v d) (h' : Walk L c v w d') : Walk L c a w (d + d') := by
 induction h' with
 | nil => rw [Int.add_zero]; exact h
 | snoc e _ he hf ht ih => rw [← Int.add_assoc]; exact .snoc e ih he hf ht
theorem Walk.ends {L : List Arc} {c a v d : Int} (h : Walk L c a v d) : v = a ∨ v ≠ c := by
 cases h with
 | nil => exact .inl rfl
 | snoc e _ _ _ ht => exact .inr ht
theorem walk_cut {m : Nat} {L : List Arc} (hL : OkL m L) {c a v d : Int} (hac : a ≠ c) : Walk (cutL L c) (-1) a v d ↔ Walk L c a v d := by
 constructor
 ·refine Walk.mono fun e he _ => ?_
  have := mem_cutL.1 he
  exact ⟨this.1, this.2.2⟩
 ·intro h
  induction h with
  | nil => exact .nil
  | snoc e h he hf ht ih =>
   have hfc : e.f ≠ c := by rw [hf]; rcases h.ends with rfl | h <;> assumption
   exact .snoc e ih (mem_cutL.2 ⟨he, hfc, ht⟩) hf (by have := (hL.may e he).2.2.1; omega)
theorem Walk.pos {m : Nat} {L : List Arc} (hL : OkL m L) {c a v d : Int} (h : Walk L c a v d) : 0 ≤ d := by
 induction h with
 | nil => exact Int.le_refl _
 | snoc e _ he _ _ ih => have := (hL.may e he).2.2.2.2.2.1; omega
def DistIs (L : List Arc) (a v d : Int) : Prop := (d = -1 ∧ ∀ k, ¬ Walk L (-1) a v k) ∨ (0 ≤ d ∧ Walk L (-1) a v d ∧ ∀ k, Walk L (-1) a v k → d ≤ k)
def met (ds : List Int) : Nat := (ds.filter fun d => decide (0 ≤ d)).length
def bulk (d : Int) : Nat := if d < 0 then 1152921504606846976 else d.toNat
def total (ds : List Int) : Nat := (ds.map bulk).sum
theorem met_le (ds : List Int) : met ds ≤ ds.length := List.length_filter_le _ _
theorem met_set : ∀ {ds : List Int} {i : Nat} {x d : Int}, ds[i]? = some x → 0 ≤ d → met (ds.set i d) = met ds + (if x < 0 then 1 else 0)
 | [], i, x, d, h, _ => by simp at h
 | y :: ds, 0, x, d, h, hd => by
  simp at h; subst h
  simp only [List.set_cons_zero, met, List.filter_cons]
  by_cases h0 : y < 0
  ·have e1 : decide (0 ≤ y) = false := by simp; omega
   have e2 : decide (0 ≤ d) = true := by simpa using hd
   rw [e1, e2, if_pos h0]; simp
  ·have e1 : decide (0 ≤ y) = true := by simp; omega
   have e2 : decide (0 ≤ d) = true := by simpa using hd
   rw [e1, e2, if_neg h0]; simp
 | y :: ds, i + 1, x, d, h, hd => by
  simp at h
  have ih := met_set (i := i) h hd
  simp only [List.set_cons_succ, met, List.filter_cons]
  simp only [met] at ih
  split
  ·simp only [List.length_cons, ih]; omega
  ·exact ih
theorem total_set : ∀ {ds : List Int} {i : Nat} {x d : Int}, ds[i]? = some x → total (ds.set i d) + bulk x = total ds + bulk d
 | [], i, x, d, h => by simp at h
 | y :: ds, 0, x, d, h => by simp at h; subst h; simp [total]; omega
 | y :: ds, i + 1, x, d, h => by
  simp at h
  have ih := total_set (i := i) (d := d) h
  simp only [List.set_cons_succ, total, List.map_cons, List.sum_cons] at ih ⊢
  omega
structure BF (m : Nat) (L : List Arc) (a : Int) (ds : List Int) : Prop where
 len : ds.length = m
 src : ds[a.toNat]? = some 0
 walk : ∀ (v : Nat) (d : Int), ds[v]? = some d → d = -1 ∨ (0 ≤ d ∧ Walk L (-1) a (v : Int) d ∧ d ≤ met ds * 1099511627776)
theorem BF.start {m : Nat} {L : List Arc} {a : Int} (h0 : 0 ≤ a) (h1 : a < m) : BF m L a ((List.replicate m (-1)).set a.toNat 0) := by
 refine ⟨by simp, by rw [List.getElem?_set]; simp; omega, fun v d hd => ?_⟩
 rw [List.getElem?_set] at hd
 by_cases hv : a.toNat = v
 ·rw [if_pos hv] at hd
  split at hd
  ·cases hd
   have : ((v : Nat) : Int) = a := by omega
   rw [this]
   exact .inr ⟨Int.le_refl _, .nil, by omega⟩
  ·cases hd
 ·rw [if_neg hv, List.getElem?_replicate] at hd
  split at hd
  ·cases hd; exact .inl rfl
  ·cases hd
theorem BF.lower {m : Nat} {L : List Arc} {a : Int} {ds : List Int} (h : BF m L a ds) (hL : OkL m L) (hm : m ≤ 512) {e : Arc} (he : e ∈ L) {x y : Int} (hx : ds[e.f.toNat]? = some x) (hy : ds[e.t.toNat]? = some y) (hx0 : 0 ≤ x) (hlt : y < 0 ∨ x + e.w < y) :
  BF m L a (ds.set e.t.toNat (x + e.w)) ∧ total (ds.set e.t.toNat (x + e.w)) < total ds := by
 obtain ⟨m1, m2, m3, m4, _, m5, m6, _⟩ := hL.may e he
 have hmet := met_set (d := x + e.w) hy (by omega)
 have hml : met ds ≤ m := h.len ▸ met_le ds
 have hxw := h.walk _ _ hx
 rcases hxw with hxw | ⟨_, hxw, hxb⟩
 ·omega
 have htl : e.t.toNat < ds.length := by have := h.len; omega
 have ef : ((e.f.toNat : Nat) : Int) = e.f := by omega
 have et : ((e.t.toNat : Nat) : Int) = e.t := by omega
 rw [ef] at hxw
 have hw : Walk L (-1) a e.t (x + e.w) := .snoc e hxw he rfl (by omega)
 have hnew : x + e.w ≤ met (ds.set e.t.toNat (x + e.w)) * 1099511627776 := by
  rw [hmet]
  rcases hlt with hlt | hlt
  ·rw [if_pos hlt]; omega
  ·rcases h.walk _ _ hy with hy' | ⟨_, _, hy'⟩
   ·rw [hy', if_pos (by omega)]; omega
   ·split <;> omega
 refine ⟨⟨by rw [List.length_set]; exact h.len, ?_, fun v d hd => ?_⟩, ?_⟩
 ·rw [List.getElem?_set]
  by_cases hat : e.t.toNat = a.toNat
  ·have hy0 : y = 0 := by rw [hat, h.src] at hy; exact (Option.some.inj hy).symm
   omega
  ·rw [if_neg hat]; exact h.src
 ·rw [List.getElem?_set] at hd
  by_cases hv : e.t.toNat = v
  ·rw [if_pos hv, if_pos htl] at hd
   cases hd
   subst hv
   rw [et]
   exact .inr ⟨by omega, hw, hnew⟩
  ·rw [if_neg hv] at hd
   rcases h.walk v d hd with h1 | ⟨h1, h2, h3⟩
   ·exact .inl h1
   ·refine .inr ⟨h1, h2, ?_⟩
    rw [hmet]; split <;> omega
 ·have ht := total_set (d := x + e.w) hy
  have hb : bulk (x + e.w) < bulk y := by
   unfold bulk
   rw [if_neg (by omega)]
   split <;> omega
  omega
theorem BF.dist {m : Nat} {L : List Arc} {a : Int} {ds : List Int} (h : BF m L a ds) (hL : OkL m L) (ha : 0 ≤ a)
  (hfix : ∀ e ∈ L, ∀ x y, ds[e.f.toNat]? = some x → ds[e.t.toNat]? = some y → 0 ≤ x → 0 ≤ y ∧ y ≤ x + e.w) : ∀ (v : Nat) (d : Int), ds[v]? = some d → DistIs L a (v : Int) d := by
 have key : ∀ {v k : Int}, Walk L (-1) a v k → ∃ d, ds[v.toNat]? = some d ∧ 0 ≤ d ∧ d ≤ k := by
  intro v k hw
  induction hw with
  | nil => exact ⟨0, h.src, Int.le_refl _, Int.le_refl _⟩
  | snoc e _ he hf ht ih =>
   obtain ⟨x, hx, hx0, hxk⟩ := ih
   rw [← hf] at hx
   obtain ⟨m1, m2, m3, m4, _⟩ := hL.may e he
   have hlt : e.t.toNat < ds.length := by have := h.len; omega
   have hy := List.getElem?_eq_getElem hlt
   obtain ⟨h1, h2⟩ := hfix e he x _ hx hy hx0
   exact ⟨_, hy, h1, by omega⟩
 intro v d hd
 rcases h.walk v d hd with h1 | ⟨h1, h2, _⟩
 ·refine .inl ⟨h1, fun k hk => ?_⟩
  obtain ⟨d', hd', h0, _⟩ := key hk
  rw [Int.toNat_natCast, hd] at hd'
  have := Option.some.inj hd'
  omega
 ·refine .inr ⟨h1, h2, fun k hk => ?_⟩
  obtain ⟨d', hd', _, hk'⟩ := key hk
  rw [Int.toNat_natCast, hd] at hd'
  have := Option.some.inj hd'
  omega
end Go.Den

namespace Go.Den
open Go
def fndB (s : List It) (to most settle : Int) : Bool := (s.take settle.toNat).any fun x => decide (x.id = to) && decide (x.key ≤ most)
theorem fndB_iff {s : List It} {to most settle : Int} : fndB s to most settle = true ↔ ∃ (i : Nat) (d : Int), (i : Int) < settle ∧ s[i]? = some ⟨to, d⟩ ∧ d ≤ most := by
 unfold fndB
 rw [List.any_eq_true]
 constructor
 ·rintro ⟨x, hx, hp⟩
  obtain ⟨i, hi⟩ := List.mem_iff_getElem?.1 hx
  have hlt := (List.getElem?_eq_some_iff.1 hi).1
  rw [List.length_take] at hlt
  rw [List.getElem?_take_of_lt (by omega)] at hi
  obtain ⟨a, b⟩ := x
  simp at hp
  exact ⟨i, b, by omega, by rw [hi, hp.1], hp.2⟩
 ·rintro ⟨i, d, h1, h2, h3⟩
  refine ⟨⟨to, d⟩, List.mem_iff_getElem?.2 ⟨i, ?_⟩, by simpa using h3⟩
  rw [List.getElem?_take_of_lt (by omega)]; exact h2
def witB (n : Nat) (L : List Arc) (a to c most settle : Int) : Bool := decide (0 ≤ a ∧ a < n) && (decide (0 ≤ to ∧ to < n) && (decide (a ≠ c) && fndB (settled n L c a) to most settle))
def stopF (s : List It) (to settle : Int) (k : Nat) : Bool := (match s[k]? with | some x => decide (x.id = to) | none => false) || decide (settle = (k : Int) + 1)
def foundF (s : List It) (to most : Int) : Nat → Bool
 | 0 => false
 | k + 1 => match s[k]? with | some x => decide (x.id = to) && decide (x.key ≤ most) | none => false
theorem foundF_succ (s : List It) (to most : Int) (k : Nat) : foundF s to most (k + 1) = match s[k]? with | some x => decide (x.id = to) && decide (x.key ≤ most) | none => false := rfl
theorem found_end {s : List It} {to most settle : Int} (h1 : One s) (hd : s.Nodup) (hs : 1 ≤ settle) {m : Nat} (hm : m ≤ s.length) (hst : ∀ j, j + 1 < m → stopF s to settle j = false)
  (hend : (m = s.length ∧ ∀ j, j < m → stopF s to settle j = false) ∨ ∃ j, m = j + 1 ∧ stopF s to settle j = true) : foundF s to most m = fndB s to most settle := by
 have no : ∀ j, stopF s to settle j = false → ∀ x, s[j]? = some x → x.id ≠ to ∧ settle ≠ (j : Int) + 1 := fun j hj x hx => by
  unfold stopF at hj; rw [hx] at hj; simpa using hj
 rw [Bool.eq_iff_iff, fndB_iff]
 rcases hend with ⟨rfl, hno⟩ | ⟨j, rfl, hj⟩
 ·constructor
  ·intro hf
   cases hl : s.length with
   | zero => rw [hl] at hf; cases hf
   | succ k =>
    rw [hl] at hf
    rw [foundF_succ] at hf
    have hx := List.getElem?_eq_getElem (show k < s.length by omega)
    rw [hx] at hf
    have := (no k (hno k (by omega)) _ hx).1
    simp [this] at hf
  ·rintro ⟨i, d, _, hi, _⟩
   have hlt := (List.getElem?_eq_some_iff.1 hi).1
   exact absurd rfl (no i (hno i hlt) _ hi).1
 ·have hx := List.getElem?_eq_getElem (show j < s.length by omega)
  have hge : (j : Int) < settle := by
   rcases Int.lt_or_le (j : Int) settle with h | h
   ·exact h
   ·obtain ⟨i, hi⟩ : ∃ i : Nat, settle = (i : Int) + 1 := ⟨(settle - 1).toNat, by omega⟩
    have hlt : i < s.length := by omega
    exact absurd hi (no i (hst i (by omega)) _ (List.getElem?_eq_getElem hlt)).2
  rw [foundF_succ, hx]
  generalize s[j] = x at hx
  constructor
  ·intro hf
   simp at hf
   exact ⟨j, x.key, hge, by rw [hx, ← hf.1], hf.2⟩
  ·rintro ⟨i, d, hi, hsi, hdm⟩
   have hij : i = j := by
    rcases Nat.lt_trichotomy i j with h | h | h
    ·exact absurd rfl (no i (hst i (by omega)) _ hsi).1
    ·exact h
    ·-- then it has not stopped at j but by its count
     unfold stopF at hj
     rw [hx] at hj
     simp at hj
     rcases hj with hj | hj
     ·have he := h1 x (List.mem_of_getElem? hx) _ (List.mem_of_getElem? hsi) hj
      have hi' := (List.getElem?_eq_some_iff.1 hsi).1
      have hn := List.pairwise_iff_getElem.1 hd j i (by omega) hi' h
      have e1 : s[j]'(by omega) = x := (List.getElem?_eq_some_iff.1 hx).2
      have e2 : s[i] = ⟨to, d⟩ := (List.getElem?_eq_some_iff.1 hsi).2
      rw [e1, e2] at hn
      exact absurd he hn
     ·omega
   subst hij
   rw [hsi] at hx; cases hx
   simpa using hdm
section
variable {m : Nat} {L : List Arc} (hL : OkL m L) (c : Int) {a : Int} (ha : 0 ≤ a) (ha' : a < m)
include hL ha ha'
theorem settled_nodup : (settled m L c a).Nodup := by
 have h := (run_inv hL c ha ha' m).dis
 unfold settled
 exact List.Pairwise.imp (fun {x y} h e => h (by rw [e])) (List.pairwise_map.1 h)
theorem settled_One : One (settled m L c a) := fun _ hx _ hy e => settled_one hL c ha ha' hx hy e
end
theorem wit_iff {n : Nat} {L : List Arc} {a to c : Int} (ha : 0 ≤ a ∧ a < n) (ht : 0 ≤ to ∧ to < n) (hac : a ≠ c) (k s : Int) : witB n L a to c k s = true ↔ ∃ (i : Nat) (d : Int), (i : Int) < s ∧ (settled n L c a)[i]? = some ⟨to, d⟩ ∧ d ≤ k := by
 rw [← fndB_iff]
 unfold witB
 rw [decide_eq_true ha, decide_eq_true ht, decide_eq_true hac]; rfl
theorem wit_self (n : Nat) (L : List Arc) (a to k s : Int) : witB n L a to a k s = false := by
 unfold witB; simp
theorem wit_walk {n : Nat} {L : List Arc} (hL : OkL n L) {a to c k s : Int} (ha : 0 ≤ a ∧ a < n) (ht : 0 ≤ to ∧ to < n) (h : witB n L a to c k s = true) : ∃ d, d ≤ k ∧ Walk L c a to d ∧ ∀ d', Walk L c a to d' → d ≤ d' := by
 have hac : a ≠ c := fun e => by subst e; rw [wit_self] at h; cases h
 obtain ⟨i, d, _, h2, h3⟩ := (wit_iff ha ht hac k s).1 h
 exact ⟨d, h3, (settled_dist hL c ha.1 ha.2).1 (List.mem_of_getElem? h2)⟩
end Go.Den

namespace Go.Den
open Go
def needB (n : Nat) (L : List Arc) (v : Int) (a b : Arc) : Bool := !decide (a.f = b.t) && !witB n L a.f b.t v (a.w + b.w) 30
def shortP (n : Nat) (L : List Arc) (v : Int) (a : Arc) (bs : List Arc) : List Arc := (bs.filter (needB n L v a)).map fun b => ⟨a.f, b.t, a.w + b.w, v⟩
def shortL (n : Nat) (L : List Arc) (v : Int) : List Arc := (inL L v).flatMap fun a => shortP n L v a (outL L v)
def worthL (n : Nat) (L : List Arc) (v : Int) : Int := (shortL n L v).length - (inL L v).length - (outL L v).length
def isGone (gs : List Bool) (v : Nat) : Bool := gs.getD v false
def firstStep (n : Nat) (L : List Arc) (gs : List Bool) (z : Int × Int) (v : Nat) : Int × Int :=
 if isGone gs v then z else if z.1 < 0 then ((v : Int), worthL n L v) else if worthL n L v < z.2 then ((v : Int), worthL n L v) else z
def firstUpto (n : Nat) (L : List Arc) (gs : List Bool) (k : Nat) : Int × Int := (List.range k).foldl (firstStep n L gs) (-1, 0)
def firstL (n : Nat) (L : List Arc) (gs : List Bool) : Int := (firstUpto n L gs n).1
theorem firstUpto_succ (n : Nat) (L : List Arc) (gs : List Bool) (k : Nat) : firstUpto n L gs (k + 1) = firstStep n L gs (firstUpto n L gs k) k := by
 unfold firstUpto; rw [List.range_succ, List.foldl_append]; rfl
theorem shortP_snoc (n : Nat) (L : List Arc) (v : Int) (a : Arc) (bs : List Arc) (b : Arc) : shortP n L v a (bs ++ [b]) = shortP n L v a bs ++ (if needB n L v a b then [⟨a.f, b.t, a.w + b.w, v⟩] else []) := by
 unfold shortP
 rw [List.filter_append, List.map_append]
 congr 1
 simp only [List.filter_cons, List.filter_nil]
 split <;> simp
theorem shortP_len (n : Nat) (L : List Arc) (v : Int) (a : Arc) (bs : List Arc) : (shortP n L v a bs).length ≤ bs.length := by
 unfold shortP; rw [List.length_map]; exact List.length_filter_le _ _
theorem short_len (n : Nat) (L : List Arc) (v : Int) (as_ : List Arc) : (as_.flatMap fun a => shortP n L v a (outL L v)).length ≤ as_.length * (outL L v).length := by
 induction as_ with
 | nil => simp
 | cons a r ih =>
  have := shortP_len n L v a (outL L v)
  simp only [List.flatMap_cons, List.length_append, List.length_cons]
  rw [Nat.add_mul]; omega
theorem mem_short {n : Nat} {L : List Arc} {v : Int} {x : Arc} : x ∈ shortL n L v ↔ ∃ a ∈ inL L v, ∃ b ∈ outL L v, needB n L v a b = true ∧ x = ⟨a.f, b.t, a.w + b.w, v⟩ := by
 unfold shortL
 rw [List.mem_flatMap]
 constructor
 ·rintro ⟨a, ha, hx⟩
  unfold shortP at hx
  obtain ⟨b, hb, rfl⟩ := List.mem_map.1 hx
  obtain ⟨h1, h2⟩ := List.mem_filter.1 hb
  exact ⟨a, ha, b, h1, h2, rfl⟩
 ·rintro ⟨a, ha, b, hb, h, rfl⟩
  refine ⟨a, ha, ?_⟩
  unfold shortP
  exact List.mem_map.2 ⟨b, List.mem_filter.2 ⟨hb, h⟩, rfl⟩
theorem short_bnd {n : Nat} {L : List Arc} (hL : OkL n L) (hn : n ≤ 512) (v : Int) : (shortL n L v).length ≤ 262144 := by
 have h1 := short_len n L v (inL L v)
 have h2 := hL.in_len v
 have h3 := hL.out_len v
 have : (inL L v).length * (outL L v).length ≤ 512 * 512 := Nat.mul_le_mul (by omega) (by omega)
 unfold shortL; omega
structure FirstOk (n : Nat) (L : List Arc) (gs : List Bool) (k : Nat) (z : Int × Int) : Prop where
 none : z.1 < 0 → z.1 = -1 ∧ ∀ v, v < k → isGone gs v = true
 some : 0 ≤ z.1 → z.1 < k ∧ isGone gs z.1.toNat = false ∧ z.2 = worthL n L z.1 ∧ ∀ v, v < k → isGone gs v = false → z.2 ≤ worthL n L v ∧ (worthL n L v = z.2 → z.1 ≤ v)
theorem first_ok (n : Nat) (L : List Arc) (gs : List Bool) : ∀ k, FirstOk n L gs k (firstUpto n L gs k)
 | 0 => ⟨fun _ => ⟨rfl, fun v hv => by omega⟩, fun h => absurd h (by show ¬ ((0 : Int) ≤ -1); decide)⟩
 | k + 1 => by
  have ih := first_ok n L gs k
  rw [firstUpto_succ]
  generalize firstUpto n L gs k = z at *
  unfold firstStep
  by_cases hg : isGone gs k = true
  ·rw [if_pos hg]
   refine ⟨fun h => ⟨(ih.none h).1, fun v hv => ?_⟩, fun h => ?_⟩
   ·by_cases e : v = k
    ·rw [e]; exact hg
    ·exact (ih.none h).2 v (by omega)
   ·obtain ⟨h1, h2, h3, h4⟩ := ih.some h
    refine ⟨by omega, h2, h3, fun v hv hgv => ?_⟩
    by_cases e : v = k
    ·rw [e, hg] at hgv; cases hgv
    ·exact h4 v (by omega) hgv
  ·rw [if_neg hg]
   have hg' : isGone gs k = false := by simpa using hg
   by_cases h0 : z.1 < 0
   ·rw [if_pos h0]
    refine ⟨fun h => by simp only at h; omega, fun _ => ⟨by simp only; omega, by simpa using hg', rfl, fun v hv hgv => ?_⟩⟩
    by_cases e : v = k
    ·subst e; exact ⟨Int.le_refl _, fun _ => Int.le_refl _⟩
    ·rw [(ih.none h0).2 v (by omega)] at hgv; cases hgv
   ·rw [if_neg h0]
    obtain ⟨h1, h2, h3, h4⟩ := ih.some (by omega)
    by_cases hw : worthL n L k < z.2
    ·rw [if_pos hw]
     refine ⟨fun h => by simp only at h; omega, fun _ => ⟨by simp only; omega, by simpa using hg', rfl, fun v hv hgv => ?_⟩⟩
     by_cases e : v = k
     ·subst e; exact ⟨Int.le_refl _, fun _ => Int.le_refl _⟩
     ·have := (h4 v (by omega) hgv).1
      simp only
      exact ⟨by omega, fun e' => by omega⟩
    ·rw [if_neg hw]
     refine ⟨fun h => absurd h h0, fun _ => ⟨by omega, h2, h3, fun v hv hgv => ?_⟩⟩
     by_cases e : v = k
     ·subst e; exact ⟨by omega, fun _ => by omega⟩
     ·exact h4 v (by omega) hgv
theorem find_le {l : List Arc} {f t : Int} {x : Arc} (hs : LSrt l) (hx : x ∈ l) (hf : x.f = f) (ht : x.t = t) : findL l f t = some x := by subst hf; subst ht; exact findL_eq hs hx
theorem put_light {m : Nat} {l : List Arc} (h : OkL m l) {a : Arc} (ha : mayA m a) : (∃ y ∈ (putL m l a).1, y.f = a.f ∧ y.t = a.t ∧ y.w ≤ a.w) ∧ ∀ x ∈ l, ∃ y ∈ (putL m l a).1, y.f = x.f ∧ y.t = x.t ∧ y.w ≤ x.w := by
 unfold putL
 rw [if_pos ha]
 have ins : (∃ y ∈ insL l a, y.f = a.f ∧ y.t = a.t ∧ y.w ≤ a.w) := ⟨a, mem_insL.2 (.inl rfl), rfl, rfl, Int.le_refl _⟩
 have old : ∀ x ∈ l, ¬ (x.f = a.f ∧ x.t = a.t) → ∃ y ∈ insL l a, y.f = x.f ∧ y.t = x.t ∧ y.w ≤ x.w := fun x hx hn => ⟨x, mem_insL.2 (.inr ⟨hx, hn⟩), rfl, rfl, Int.le_refl _⟩
 cases hf : findL l a.f a.t with
 | none => exact ⟨ins, fun x hx => old x hx (findL_none hf x hx)⟩
 | some z =>
  obtain ⟨hz, z1, z2⟩ := findL_some hf
  simp only
  split
  ·exact ⟨⟨z, hz, z1, z2, by assumption⟩, fun x hx => ⟨x, hx, rfl, rfl, Int.le_refl _⟩⟩
  ·refine ⟨ins, fun x hx => ?_⟩
   by_cases e : x.f = a.f ∧ x.t = a.t
   ·have : x = z := by have := find_le h.srt hx e.1 e.2; rw [hf] at this; exact (Option.some.inj this).symm
    subst this
    exact ⟨a, mem_insL.2 (.inl rfl), e.1.symm, e.2.symm, by omega⟩
   ·exact old x hx e
theorem putAll_light {m : Nat} : ∀ (xs : List Arc) {l : List Arc}, OkL m l → (∀ a ∈ xs, mayA m a) → ∀ x, x ∈ l ∨ x ∈ xs → ∃ y ∈ putAll m l xs, y.f = x.f ∧ y.t = x.t ∧ y.w ≤ x.w
 | [], l, h, _, x, hx => by
  rcases hx with hx | hx
  ·exact ⟨x, hx, rfl, rfl, Int.le_refl _⟩
  ·cases hx
 | a :: xs, l, h, hm, x, hx => by
  have hp := put_light h (hm a (by simp))
  have ih := putAll_light xs (putL_ok h a) fun b hb => hm b (by simp [hb])
  have step : (∃ y ∈ (putL m l a).1, y.f = x.f ∧ y.t = x.t ∧ y.w ≤ x.w) ∨ x ∈ xs := by
   rcases hx with hx | hx
   ·exact .inl (hp.2 x hx)
   ·rcases List.mem_cons.1 hx with rfl | hx
    ·exact .inl hp.1
    ·exact .inr hx
  rcases step with ⟨y, hy, e1, e2, e3⟩ | hx
  ·obtain ⟨z, hz, e4, e5, e6⟩ := ih y (.inl hy)
   exact ⟨z, hz, e4.trans e1, e5.trans e2, Int.le_trans e6 e3⟩
  ·exact ih x (.inr hx)
theorem put_sub {m : Nat} {l : List Arc} {a x : Arc} (h : x ∈ (putL m l a).1) : x ∈ l ∨ x = a := by
 unfold putL at h
 split at h
 ·split at h
  ·split at h
   ·exact .inl h
   ·rcases mem_insL.1 h with rfl | ⟨h, _⟩
    ·exact .inr rfl
    ·exact .inl h
  ·rcases mem_insL.1 h with rfl | ⟨h, _⟩
   ·exact .inr rfl
   ·exact .inl h
 ·exact .inl h
theorem putAll_sub {m : Nat} : ∀ (xs : List Arc) {l : List Arc} {x : Arc}, x ∈ putAll m l xs → x ∈ l ∨ x ∈ xs
 | [], _, _, h => .inl h
 | a :: xs, l, x, h => by
  rcases putAll_sub xs (l := (putL m l a).1) h with h | h
  ·rcases put_sub h with h | rfl
   ·exact .inl h
   ·exact .inr (by simp)
  ·exact .inr (by simp [h])
section
variable {n : Nat} {L : List Arc} (hL : OkL n L) {v : Int} (hw : ∀ e ∈ L, e.w ≤ 549755813888)
include hL hw
theorem short_may (hv0 : 0 ≤ v) (hv1 : v < n) : ∀ x ∈ shortL n L v, mayA n x ∧ x.m = v ∧ x.f ≠ v ∧ x.t ≠ v := by
 intro x hx
 obtain ⟨a, ha, b, hb, hn, rfl⟩ := mem_short.1 hx
 obtain ⟨ha, hat⟩ := mem_inL.1 ha
 obtain ⟨hb, hbf⟩ := mem_outL.1 hb
 obtain ⟨a0, a1, a2, a3, a4, a5, a6, _⟩ := hL.may a ha
 obtain ⟨b0, b1, b2, b3, b4, b5, b6, _⟩ := hL.may b hb
 have hne : a.f ≠ b.t := by unfold needB at hn; simp at hn; exact hn.1
 have h1 := hw a ha
 have h2 := hw b hb
 have e1 : a.f ≠ v := by omega
 have e2 : b.t ≠ v := by omega
 exact ⟨⟨a0, a1, b2, b3, hne, by show 1 ≤ a.w + b.w; omega, by show a.w + b.w ≤ _; omega, .inr ⟨hv0, hv1, fun e => e1 e.symm, fun e => e2 e.symm⟩⟩, rfl, e1, e2⟩
theorem keeps_to (hv0 : 0 ≤ v) (hv1 : v < n) {a b d : Int} (ha : a ≠ v) (h : Walk L (-1) a b d) :
  (b ≠ v → ∃ d', d' ≤ d ∧ Walk (putAll n (cutL L v) (shortL n L v)) (-1) a b d') ∧ (b = v → ∃ e ∈ inL L v, ∃ d', Walk (putAll n (cutL L v) (shortL n L v)) (-1) a e.f d' ∧ d' + e.w ≤ d) := by
 have hmay := short_may hL hw hv0 hv1
 have hO : OkL n (putAll n (cutL L v) (shortL n L v)) := putAll_ok _ (hL.cut v)
 have light := putAll_light (shortL n L v) (hL.cut v) fun x hx => (hmay x hx).1
 generalize putAll n (cutL L v) (shortL n L v) = O at *
 have arc : ∀ x, x ∈ cutL L v ∨ x ∈ shortL n L v → ∀ d, Walk O (-1) a x.f d → ∃ d', d' ≤ d + x.w ∧ Walk O (-1) a x.t d' := fun x hx d hd => by
  obtain ⟨y, hy, e1, e2, e3⟩ := light x hx
  have := Walk.snoc y hd hy e1 (by have := (hO.may y hy).2.2.1; omega)
  rw [e2] at this
  exact ⟨d + y.w, by omega, this⟩
 have along : ∀ {p q d2 : Int}, Walk (cutL L v) (-1) p q d2 → ∀ d1, Walk O (-1) a p d1 → ∃ d', d' ≤ d1 + d2 ∧ Walk O (-1) a q d' := by
  intro p q d2 hpq
  induction hpq with
  | nil => intro d1 h1; exact ⟨d1, by omega, h1⟩
  | snoc e _ he hf _ ih =>
   intro d1 h1
   obtain ⟨d', hd', hw'⟩ := ih d1 h1
   rw [← hf] at hw'
   obtain ⟨d'', h2, h3⟩ := arc e (.inl he) d' hw'
   exact ⟨d'', by omega, h3⟩
 induction h with
 | nil => exact ⟨fun _ => ⟨0, Int.le_refl _, .nil⟩, fun e => absurd e ha⟩
 | @snoc x d e h he hf ht ih =>
  have heft := (hL.may e he).2.2.2.2.1
  refine ⟨fun hbv => ?_, fun hbv => ?_⟩
  ·by_cases hfv : e.f = v
   ·-- over the number itself
    obtain ⟨e1, he1, d1, hw1, hd1⟩ := ih.2 (hf.symm.trans hfv)
    obtain ⟨he1L, he1t⟩ := mem_inL.1 he1
    by_cases hsame : e1.f = e.t
    ·rw [hsame] at hw1
     have := (hL.may e he).2.2.2.2.2.1
     have := (hL.may e1 he1L).2.2.2.2.2.1
     exact ⟨d1, by omega, hw1⟩
    ·have hout : e ∈ outL L v := mem_outL.2 ⟨he, hfv⟩
     obtain ⟨b0, b1, b2, b3, _⟩ := hL.may e he
     obtain ⟨c0, c1, c2, c3, c4, _⟩ := hL.may e1 he1L
     cases hwit : witB n L e1.f e.t v (e1.w + e.w) 30 with
     | true =>
      obtain ⟨d2, hd2, hw2, _⟩ := wit_walk hL ⟨c0, c1⟩ ⟨b2, b3⟩ hwit
      have hw3 := (walk_cut hL (by omega)).2 hw2
      obtain ⟨d', h1, h2⟩ := along hw3 d1 hw1
      exact ⟨d', by omega, h2⟩
     | false =>
      have hneed : needB n L v e1 e = true := by unfold needB; rw [hwit]; simp [hsame]
      obtain ⟨d', h1, h2⟩ := arc ⟨e1.f, e.t, e1.w + e.w, v⟩ (.inr (mem_short.2 ⟨e1, he1, e, hout, hneed, rfl⟩)) d1 hw1
      refine ⟨d', ?_, h2⟩
      have : d' ≤ d1 + (e1.w + e.w) := h1
      omega
   ·obtain ⟨d1, hd1, hw1⟩ := ih.1 (fun e' => hfv (hf.trans e'))
    rw [← hf] at hw1
    obtain ⟨d', h1, h2⟩ := arc e (.inl (mem_cutL.2 ⟨he, hfv, hbv⟩)) d1 hw1
    exact ⟨d', by omega, h2⟩
  ·have hfv : e.f ≠ v := by omega
   obtain ⟨d1, hd1, hw1⟩ := ih.1 (fun e' => hfv (hf.trans e'))
   rw [← hf] at hw1
   exact ⟨e, mem_inL.2 ⟨he, hbv⟩, d1, hw1, by omega⟩
end
end Go.Den

namespace Go.Den
open Go
structure Bld where
 left : List Arc
 all : List Arc
 gone : List Bool
 rank : List Int
def bldStep (n : Nat) (k : Nat) (z : Bld) : Bld :=
 ⟨cutL (putAll n z.left (shortL n z.left (firstL n z.left z.gone))) (firstL n z.left z.gone), putAll n z.all (shortL n z.left (firstL n z.left z.gone)), z.gone.set (firstL n z.left z.gone).toNat true, z.rank.set (firstL n z.left z.gone).toNat (k : Int)⟩
def bldN (n : Nat) (L : List Arc) : Nat → Bld
 | 0 => ⟨L, L, List.replicate n false, List.replicate n 0⟩
 | k + 1 => bldStep n k (bldN n L k)
def goneN (gs : List Bool) : Nat := (gs.filter fun b => b).length
theorem goneN_set : ∀ {gs : List Bool} {i : Nat}, gs[i]? = some false → goneN (gs.set i true) = goneN gs + 1
 | [], i, h => by simp at h
 | b :: gs, 0, h => by simp at h; subst h; simp [goneN]
 | b :: gs, i + 1, h => by
  simp at h
  have ih := goneN_set (i := i) h
  simp only [List.set_cons_succ, goneN, List.filter_cons] at ih ⊢
  split
  ·simp only [List.length_cons]; omega
  ·exact ih
theorem goneN_some {gs : List Bool} (h : goneN gs < gs.length) : ∃ v, v < gs.length ∧ isGone gs v = false := by
 induction gs with
 | nil => simp at h
 | cons b gs ih =>
  cases b with
  | false => exact ⟨0, by simp, rfl⟩
  | true =>
   have : goneN gs < gs.length := by simp [goneN] at h ⊢; omega
   obtain ⟨v, h1, h2⟩ := ih this
   exact ⟨v + 1, by simpa using h1, by unfold isGone at h2 ⊢; simpa using h2⟩
theorem isGone_set {gs : List Bool} {i : Nat} (hi : i < gs.length) (v : Nat) : isGone (gs.set i true) v = (decide (v = i) || isGone gs v) := by
 unfold isGone
 simp only [List.getD_eq_getElem?_getD, List.getElem?_set]
 by_cases e : v = i
 ·subst e; simp [hi]
 ·rw [if_neg (fun h => e h.symm)]; simp [e]
theorem findL_filter {l : List Arc} {p : Arc → Bool} {f t : Int} (hp : ∀ x ∈ l, x.f = f → x.t = t → p x = true) : findL (l.filter p) f t = findL l f t := by
 unfold findL
 induction l with
 | nil => rfl
 | cons a l ih =>
  have ih' := ih fun x hx => hp x (by simp [hx])
  simp only [List.filter_cons]
  by_cases hpa : p a = true
  ·rw [if_pos hpa]
   simp only [List.find?_cons]
   split
   ·rfl
   ·exact ih'
  ·rw [if_neg hpa, ih']
   simp only [List.find?_cons]
   have : (decide (a.f = f) && decide (a.t = t)) = false := by
    by_cases e1 : a.f = f <;> by_cases e2 : a.t = t <;> simp [e1, e2]
    exact hpa (hp a (by simp) e1 e2)
   rw [this]
theorem findL_put {n : Nat} {l : List Arc} (h : OkL n l) (a : Arc) (f t : Int) : findL (putL n l a).1 f t =
  if mayA n a ∧ f = a.f ∧ t = a.t ∧ (match findL l f t with | some x => decide (x.w ≤ a.w) | none => false) = false then some a else findL l f t := by
 have ins : ∀ f t, findL (insL l a) f t = if f = a.f ∧ t = a.t then some a else findL l f t := fun f t => by
  have hs := h.srt.ins a
  by_cases e : f = a.f ∧ t = a.t
  ·rw [if_pos e, e.1, e.2]
   exact findL_eq hs (mem_insL.2 (.inl rfl))
  ·rw [if_neg e]
   cases hx : findL l f t with
   | none =>
    have hn := findL_none hx
    cases hy : findL (insL l a) f t with
    | none => rfl
    | some y =>
     obtain ⟨hm, h1, h2⟩ := findL_some hy
     rcases mem_insL.1 hm with rfl | ⟨hm, _⟩
     ·exact absurd ⟨h1.symm, h2.symm⟩ e
     ·exact absurd ⟨h1, h2⟩ (hn y hm)
   | some x =>
    obtain ⟨hm, h1, h2⟩ := findL_some hx
    have hm' : x ∈ insL l a := mem_insL.2 (.inr ⟨hm, fun e' => e ⟨h1.symm.trans e'.1, h2.symm.trans e'.2⟩⟩)
    have := findL_eq hs hm'
    rwa [h1, h2] at this
 unfold putL
 by_cases hm : mayA n a
 ·rw [if_pos hm]
  cases hf : findL l a.f a.t with
  | none =>
   simp only
   rw [ins]
   by_cases e : f = a.f ∧ t = a.t
   ·rw [if_pos e, if_pos ⟨hm, e.1, e.2, by rw [e.1, e.2, hf]⟩]
   ·rw [if_neg e, if_neg (fun e' => e ⟨e'.2.1, e'.2.2.1⟩)]
  | some x =>
   simp only
   by_cases hw : x.w ≤ a.w
   ·rw [if_pos hw]
    rw [if_neg]
    rintro ⟨_, e1, e2, e3⟩
    rw [e1, e2, hf] at e3
    simp at e3; omega
   ·rw [if_neg hw, ins]
    by_cases e : f = a.f ∧ t = a.t
    ·rw [if_pos e, if_pos ⟨hm, e.1, e.2, by rw [e.1, e.2, hf]; simpa using hw⟩]
    ·rw [if_neg e, if_neg (fun e' => e ⟨e'.2.1, e'.2.2.1⟩)]
 ·rw [if_neg hm, if_neg (fun e => hm e.1)]
theorem findL_putAll_same {n : Nat} : ∀ (xs : List Arc) {l m : List Arc}, OkL n l → OkL n m → ∀ f t, findL l f t = findL m f t → findL (putAll n l xs) f t = findL (putAll n m xs) f t
 | [], _, _, _, _, _, _, h => h
 | a :: xs, l, m, hl, hm, f, t, h => by
  show findL (putAll n (putL n l a).1 xs) f t = findL (putAll n (putL n m a).1 xs) f t
  refine findL_putAll_same xs (putL_ok hl a) (putL_ok hm a) f t ?_
  rw [findL_put hl, findL_put hm, h]
structure BInv (n : Nat) (k : Nat) (z : Bld) : Prop where
 okl : OkL n z.left
 oka : OkL n z.all
 gl : z.gone.length = n
 rl : z.rank.length = n
 cnt : goneN z.gone = k
 wl : ∀ e ∈ z.left, e.w ≤ 549755813888
 wa : ∀ e ∈ z.all, e.w ≤ 549755813888
 lg : ∀ e ∈ z.left, isGone z.gone e.f.toNat = false ∧ isGone z.gone e.t.toNat = false
 same : ∀ f t : Int, 0 ≤ f → 0 ≤ t → isGone z.gone f.toNat = false → isGone z.gone t.toNat = false → findL z.all f t = findL z.left f t
 rk : ∀ v : Nat, v < n → isGone z.gone v = true → 0 ≤ z.rank.getD v 0 ∧ z.rank.getD v 0 < k
 inj : ∀ v w : Nat, v < n → w < n → isGone z.gone v = true → isGone z.gone w = true → z.rank.getD v 0 = z.rank.getD w 0 → v = w
theorem bld_first {n k : Nat} {z : Bld} (h : BInv n k z) (hk : k < n) : 0 ≤ firstL n z.left z.gone ∧ firstL n z.left z.gone < n ∧ isGone z.gone (firstL n z.left z.gone).toNat = false := by
 have hf := first_ok n z.left z.gone n
 obtain ⟨v, h1, h2⟩ := goneN_some (gs := z.gone) (by rw [h.cnt, h.gl]; exact hk)
 have : 0 ≤ (firstUpto n z.left z.gone n).1 := by
  rcases Int.lt_or_le (firstUpto n z.left z.gone n).1 0 with h' | h'
  ·have := (hf.none h').2 v (by rw [← h.gl]; exact h1)
   rw [h2] at this; cases this
  ·exact h'
 obtain ⟨a, b, _⟩ := hf.some this
 exact ⟨this, a, b⟩
theorem getD_set {l : List Int} {i : Nat} (hi : i < l.length) (x : Int) (v : Nat) : (l.set i x).getD v 0 = if v = i then x else l.getD v 0 := by
 simp only [List.getD_eq_getElem?_getD, List.getElem?_set]
 by_cases e : v = i
 ·subst e; simp [hi]
 ·rw [if_neg (fun h => e h.symm), if_neg e]
theorem bld_start {n : Nat} {L : List Arc} (hL : OkL n L) (hw : ∀ e ∈ L, e.w ≤ 40) : BInv n 0 (bldN n L 0) := by
 have g0 : ∀ v, isGone (List.replicate n false) v = false := fun v => by unfold isGone; rw [List.getD_eq_getElem?_getD, List.getElem?_replicate]; split <;> rfl
 refine ⟨hL, hL, by simp [bldN], by simp [bldN], ?_, fun e he => by have := hw e he; omega, fun e he => by have := hw e he; omega, fun e _ => ⟨g0 _, g0 _⟩, fun _ _ _ _ _ _ => rfl, fun v _ hv => ?_, fun v w _ _ hv => ?_⟩
 ·show goneN (List.replicate n false) = 0
  unfold goneN
  rw [List.filter_eq_nil_iff.2 fun b hb => by rw [(List.mem_replicate.1 hb).2]; simp]; rfl
 ·rw [show (bldN n L 0).gone = List.replicate n false from rfl, g0] at hv; cases hv
 ·rw [show (bldN n L 0).gone = List.replicate n false from rfl, g0] at hv; cases hv
theorem bld_step {n k : Nat} {z : Bld} (h : BInv n k z) (hk : k < n) (sw : ∀ x ∈ shortL n z.left (firstL n z.left z.gone), x.w ≤ 549755813888) : BInv n (k + 1) (bldStep n k z) := by
 obtain ⟨v0, v1, vg⟩ := bld_first h hk
 unfold bldStep
 generalize firstL n z.left z.gone = v at *
 have hlt : v.toNat < z.gone.length := by rw [h.gl]; omega
 have hltr : v.toNat < z.rank.length := by rw [h.rl]; omega
 have gset := isGone_set hlt
 have okp := putAll_ok (n := n) (shortL n z.left v) h.okl
 have sg : ∀ x ∈ shortL n z.left v, isGone z.gone x.f.toNat = false ∧ isGone z.gone x.t.toNat = false := fun x hx => by
  obtain ⟨a, ha, b, hb, _, rfl⟩ := mem_short.1 hx
  exact ⟨(h.lg a (mem_inL.1 ha).1).1, (h.lg b (mem_outL.1 hb).1).2⟩
 refine ⟨okp.cut v, putAll_ok _ h.oka, by simp [h.gl], by simp [h.rl], ?_, fun e he => ?_, fun e he => ?_, fun e he => ?_, fun f t hf0 ht0 hf ht => ?_, fun u hu hg => ?_, fun u w hu hw hgu hgw e => ?_⟩
 ·have hget : z.gone[v.toNat]? = some false := by
   unfold isGone at vg
   rw [List.getD_eq_getElem?_getD, List.getElem?_eq_getElem hlt] at vg
   rw [List.getElem?_eq_getElem hlt]
   simpa using vg
  show goneN (z.gone.set v.toNat true) = k + 1
  rw [goneN_set hget, h.cnt]
 ·rcases putAll_sub _ (mem_cutL.1 he).1 with h' | h'
  ·exact h.wl e h'
  ·exact sw e h'
 ·rcases putAll_sub _ he with h' | h'
  ·exact h.wa e h'
  ·exact sw e h'
 ·obtain ⟨he, ne1, ne2⟩ := mem_cutL.1 he
  have hm := okp.may e he
  have hg : isGone z.gone e.f.toNat = false ∧ isGone z.gone e.t.toNat = false := by
   rcases putAll_sub _ he with h' | h'
   ·exact h.lg e h'
   ·exact sg e h'
  show isGone (z.gone.set v.toNat true) _ = false ∧ isGone (z.gone.set v.toNat true) _ = false
  rw [gset, gset, hg.1, hg.2]
  have := hm.1
  have := hm.2.2.1
  constructor <;> simp <;> omega
 ·replace hf : isGone (z.gone.set v.toNat true) f.toNat = false := hf
  replace ht : isGone (z.gone.set v.toNat true) t.toNat = false := ht
  rw [gset] at hf ht
  simp at hf ht
  show findL (putAll n z.all _) f t = findL (cutL (putAll n z.left _) v) f t
  have e1 := findL_putAll_same (shortL n z.left v) h.oka h.okl f t (h.same f t hf0 ht0 hf.2 ht.2)
  have e2 : findL (cutL (putAll n z.left (shortL n z.left v)) v) f t = findL (putAll n z.left (shortL n z.left v)) f t := findL_filter fun x _ e3 e4 => by
   simp only [Bool.and_eq_true, decide_eq_true_eq]
   exact ⟨fun e => hf.1 (by rw [← e3, e]), fun e => ht.1 (by rw [← e4, e])⟩
  rw [e1, e2]
 ·replace hg : isGone (z.gone.set v.toNat true) u = true := hg
  show 0 ≤ (z.rank.set v.toNat (k : Int)).getD u 0 ∧ (z.rank.set v.toNat (k : Int)).getD u 0 < ((k + 1 : Nat) : Int)
  rw [gset] at hg
  rw [getD_set hltr]
  by_cases e : u = v.toNat
  ·rw [if_pos e]; omega
  ·rw [if_neg e]
   simp [e] at hg
   have := h.rk u hu hg
   omega
 ·replace hgu : isGone (z.gone.set v.toNat true) u = true := hgu
  replace hgw : isGone (z.gone.set v.toNat true) w = true := hgw
  replace e : (z.rank.set v.toNat (k : Int)).getD u 0 = (z.rank.set v.toNat (k : Int)).getD w 0 := e
  rw [gset] at hgu hgw
  rw [getD_set hltr, getD_set hltr] at e
  by_cases e1 : u = v.toNat <;> by_cases e2 : w = v.toNat
  ·rw [e1, e2]
  ·rw [if_pos e1, if_neg e2] at e
   simp [e2] at hgw
   have := h.rk w hw hgw
   omega
  ·rw [if_neg e1, if_pos e2] at e
   simp [e1] at hgu
   have := h.rk u hu hgu
   omega
  ·rw [if_neg e1, if_neg e2] at e
   simp [e1] at hgu
   simp [e2] at hgw
   exact h.inj u w hu hw hgu hgw e
theorem bld_all {n : Nat} {z : Bld} (h : BInv n n z) (v : Nat) (hv : v < n) : isGone z.gone v = true := by
 cases hg : isGone z.gone v with
 | true => rfl
 | false =>
  have key : ∀ (gs : List Bool) (v : Nat), v < gs.length → isGone gs v = false → goneN gs < gs.length := by
   intro gs
   induction gs with
   | nil => intro v hv; simp at hv
   | cons b gs ih =>
    intro v hv hg
    have hle : goneN gs ≤ gs.length := List.length_filter_le _ _
    cases b with
    | false => simp [goneN] at hle ⊢; omega
    | true =>
     cases v with
     | zero => simp [isGone] at hg
     | succ v =>
      have := ih v (by simpa using hv) (by unfold isGone at hg ⊢; simpa using hg)
      simp [goneN] at this ⊢; omega
  have := key z.gone v (by rw [h.gl]; exact hv) hg
  rw [h.cnt, h.gl] at this; omega
end Go.Den

namespace Go.Den
open Go
theorem left_all {n k : Nat} {z : Bld} (h : BInv n k z) {y : Arc} (hy : y ∈ z.left) : y ∈ z.all := by
 obtain ⟨g1, g2⟩ := h.lg y hy
 have hm := h.okl.may y hy
 have e := h.same y.f y.t hm.1 hm.2.2.1 g1 g2
 rw [findL_eq h.okl.srt hy] at e
 exact (findL_some e).1
theorem cut_put {n : Nat} {L : List Arc} (hL : OkL n L) {v : Int} {xs : List Arc} (hx : ∀ x ∈ xs, x.f ≠ v ∧ x.t ≠ v) : ∀ y ∈ putAll n (cutL L v) xs, y ∈ cutL (putAll n L xs) v := by
 intro y hy
 have hok := putAll_ok (n := n) xs (hL.cut v)
 have hne : y.f ≠ v ∧ y.t ≠ v := by
  rcases putAll_sub _ hy with h | h
  ·exact (mem_cutL.1 h).2
  ·exact hx y h
 have e1 : findL (cutL L v) y.f y.t = findL L y.f y.t := findL_filter fun x _ e3 e4 => by
  simp only [Bool.and_eq_true, decide_eq_true_eq]
  exact ⟨fun e => hne.1 (by rw [← e3, e]), fun e => hne.2 (by rw [← e4, e])⟩
 have e2 := findL_putAll_same xs (hL.cut v) hL y.f y.t e1
 rw [findL_eq hok.srt hy] at e2
 exact mem_cutL.2 ⟨(findL_some e2.symm).1, hne⟩
theorem walk_split {L : List Arc} {a b d c : Int} (h : Walk L (-1) a b d) (hac : a ≠ c) : (b ≠ c ∧ Walk L c a b d) ∨ ∃ d1 d2, Walk L (-1) a c d1 ∧ Walk L (-1) c b d2 ∧ d1 + d2 = d := by
 induction h with
 | nil => exact .inl ⟨hac, .nil⟩
 | @snoc x d e h he hf ht ih =>
  by_cases hc : e.t = c
  ·refine .inr ⟨d + e.w, 0, ?_, ?_, by omega⟩
   ·have := Walk.snoc e h he hf ht
    rwa [hc] at this
   ·rw [hc]; exact .nil
  ·rcases ih with ⟨_, h1⟩ | ⟨d1, d2, h1, h2, h3⟩
   ·exact .inl ⟨hc, .snoc e h1 he hf hc⟩
   ·exact .inr ⟨d1, d2 + e.w, h1, .snoc e h2 he hf ht, by omega⟩
theorem Walk.one_le {m : Nat} {L : List Arc} (hL : OkL m L) {c a v d : Int} (h : Walk L c a v d) (hne : a ≠ v) : 1 ≤ d := by
 cases h with
 | nil => exact absurd rfl hne
 | snoc e h he _ _ => have := (hL.may e he).2.2.2.2.2.1; have := h.pos hL; omega
def below (s : List It) (d : Int) : Nat := (s.filter fun x => decide (x.key < d)).length
theorem below_lt {s : List It} {x : It} (hx : x ∈ s) {d : Int} (h : x.key < d) : below s x.key + 1 ≤ below s d := by
 induction s with
 | nil => cases hx
 | cons y s ih =>
  have mono : ∀ s : List It, below s x.key ≤ below s d := fun s => by
   induction s with
   | nil => exact Nat.le_refl _
   | cons z s ih =>
    unfold below at ih ⊢
    simp only [List.filter_cons]
    by_cases h1 : z.key < x.key
    ·have h2 : z.key < d := by omega
     simp [h1, h2]; exact ih
    ·by_cases h2 : z.key < d
     ·simp [h1, h2]; omega
     ·simp [h1, h2]; exact ih
  rcases List.mem_cons.1 hx with rfl | hx
  ·have := mono s
   unfold below at this ⊢
   simp only [List.filter_cons]
   simp [h]; omega
  ·have := ih hx
   unfold below at this ⊢
   simp only [List.filter_cons]
   by_cases h1 : y.key < x.key
   ·have h2 : y.key < d := by omega
    simp [h1, h2]; exact this
   ·by_cases h2 : y.key < d
    ·simp [h1, h2]; omega
    ·simp [h1, h2]; exact this
section
variable {m : Nat} {L : List Arc} (hL : OkL m L) {W : Int} (hW : ∀ e ∈ L, e.w ≤ W) (hW0 : 0 ≤ W) {a : Int} (ha : 0 ≤ a) (ha' : a < m)
include hL hW hW0 ha ha'
theorem settled_below : ∀ (k : Nat) {v d : Int}, d.toNat ≤ k → (⟨v, d⟩ : It) ∈ settled m L (-1) a → d ≤ (below (settled m L (-1) a) d : Int) * W
 | k, v, d, hk, h => by
  obtain ⟨hw, hmin⟩ := (settled_dist hL (-1) ha ha').1 h
  cases hw with
  | nil => exact Int.mul_nonneg (by omega) hW0
  | @snoc x d0 e h0 he hf ht =>
   have hew := (hL.may e he).2.2.2.2.2.1
   have hd0 := h0.pos hL
   have hs : (⟨x, d0⟩ : It) ∈ settled m L (-1) a := (settled_dist hL (-1) ha ha').2 ⟨h0, fun d' hd' => by have := hmin (d' + e.w) (.snoc e hd' he hf ht); omega⟩
   obtain ⟨k', rfl⟩ : ∃ k', k = k' + 1 := ⟨k - 1, by omega⟩
   have ih := settled_below k' (by omega) hs
   have hb := below_lt hs (d := d0 + e.w) (by show d0 < d0 + e.w; omega)
   have hb' : (below (settled m L (-1) a) d0 : Int) + 1 ≤ (below (settled m L (-1) a) (d0 + e.w) : Int) := by
    have : below (settled m L (-1) a) d0 + 1 ≤ below (settled m L (-1) a) (d0 + e.w) := hb
    omega
   have h1 := Int.mul_le_mul_of_nonneg_right hb' hW0
   rw [Int.add_mul, Int.one_mul] at h1
   have := hW e he
   omega
theorem short_walk {b d : Int} (h : Walk L (-1) a b d) : ∃ d', d' ≤ d ∧ Walk L (-1) a b d' ∧ d' ≤ (m : Int) * W := by
 obtain ⟨k, hk, hs⟩ := settled_reach hL (-1) ha ha' h
 refine ⟨k, hk, ((settled_dist hL (-1) ha ha').1 hs).1, ?_⟩
 have h1 := settled_below hL hW hW0 ha ha' k.toNat (Nat.le_refl _) hs
 have h2 : below (settled m L (-1) a) k ≤ m := Nat.le_trans (List.length_filter_le _ _) (settled_len hL (-1) ha ha')
 have h3 := Int.mul_le_mul_of_nonneg_right (show (below (settled m L (-1) a) k : Int) ≤ (m : Int) by omega) hW0
 omega
end
theorem goneN_range : ∀ gs : List Bool, ((List.range gs.length).filter fun v => isGone gs v).length = goneN gs
 | [] => rfl
 | b :: gs => by
  have ih := goneN_range gs
  rw [List.length_cons, List.range_succ_eq_map, List.filter_cons, List.filter_map]
  have e : ((fun v => isGone (b :: gs) v) ∘ Nat.succ) = fun v => isGone gs v := by funext v; simp [isGone]
  rw [e]
  cases b with
  | true =>
   have : isGone (true :: gs) 0 = true := by simp [isGone]
   rw [this]; simp [goneN] at ih ⊢; exact ih
  | false =>
   have : isGone (false :: gs) 0 = false := by simp [isGone]
   rw [this]; simp [goneN] at ih ⊢; exact ih
theorem settled_few {m : Nat} {L : List Arc} (hL : OkL m L) {c a : Int} (ha : 0 ≤ a) (ha' : a < m) {gs : List Bool} (hg : gs.length = m) (hx : ∀ x ∈ settled m L c a, isGone gs x.id.toNat = false) :
  (settled m L c a).length + goneN gs ≤ m := by
 have hnd := (run_inv hL c ha ha' m).dis
 have hin : ∀ x ∈ settled m L c a, 0 ≤ x.id ∧ x.id < m := fun x hx => (settled_bnd hL c ha ha' hx).2.2
 have key := nodup_len (m := m) (l := (settled m L c a).map (·.id) ++ ((List.range gs.length).filter fun v => isGone gs v).map fun v : Nat => (v : Int)) ?_ ?_
 ·rw [List.length_append, List.length_map, List.length_map, goneN_range] at key; exact key
 ·rw [List.nodup_append]
  refine ⟨hnd, ?_, ?_⟩
  ·rw [List.Nodup, List.pairwise_map]
   exact List.Pairwise.imp (fun {x y : Nat} (h : x < y) (e : (x : Int) = (y : Int)) => by omega) (List.Pairwise.filter _ (List.pairwise_lt_range (n := gs.length)))
  ·intro x hx1 y hy e
   obtain ⟨x', hx', rfl⟩ := List.mem_map.1 hx1
   obtain ⟨y', hy', rfl⟩ := List.mem_map.1 hy
   have h1 := hx x' hx'
   have h2 := (List.mem_filter.1 hy').2
   rw [e, Int.toNat_natCast, h2] at h1; cases h1
 ·intro x hx1
  rcases List.mem_append.1 hx1 with h | h
  ·obtain ⟨x', hx', rfl⟩ := List.mem_map.1 h
   exact hin x' hx'
  ·obtain ⟨y', hy', rfl⟩ := List.mem_map.1 h
   have := List.mem_range.1 (List.mem_filter.1 hy').1
   omega
theorem wit_few {n : Nat} {L : List Arc} (hL : OkL n L) {a to c k : Int} {s : Nat} (ha : 0 ≤ a ∧ a < n) (ht : 0 ≤ to ∧ to < n) (hac : a ≠ c) {d : Int} (hw : Walk L c a to d) (hd : d ≤ k) (hs : (settled n L c a).length ≤ s) : witB n L a to c k s = true := by
 obtain ⟨e, he, hm⟩ := settled_reach hL c ha.1 ha.2 hw
 obtain ⟨i, hi⟩ := List.mem_iff_getElem?.1 hm
 have h2 := (List.getElem?_eq_some_iff.1 hi).1
 exact (wit_iff ha ht hac k s).2 ⟨i, e, by omega, hi, by omega⟩
structure BRat (n : Nat) (L : List Arc) (k : Nat) (z : Bld) : Prop where
 abs : k ≤ 21 → ∀ e ∈ z.left, e.w ≤ 40 * 2 ^ k
 rat : ∀ e ∈ z.left, ∀ d, Walk L (-1) e.f e.t d → e.w ≤ 83886080 * d
 keep : ∀ a b d : Int, Walk L (-1) a b d → 0 ≤ a → 0 ≤ b → isGone z.gone a.toNat = false → isGone z.gone b.toNat = false → ∃ d', d' ≤ d ∧ Walk z.left (-1) a b d'
 back : ∀ e ∈ z.left, Walk L (-1) e.f e.t e.w
theorem rat_start {n : Nat} {L : List Arc} (hL : OkL n L) (hw : ∀ e ∈ L, e.w ≤ 40) : BRat n L 0 (bldN n L 0) := by
 refine ⟨fun _ e he => by have := hw e he; omega, fun e he d hd => ?_, fun a b d h _ _ _ _ => ⟨d, Int.le_refl _, h⟩, fun e he => ?_⟩
 ·have hm := hL.may e he
  have h1 := hd.one_le hL (fun e' => hm.2.2.2.2.1 e')
  have := hw e he
  omega
 ·have := Walk.snoc (a := e.f) e (.nil (L := L) (c := -1)) he rfl (by have := (hL.may e he).2.2.1; omega)
  rwa [Int.zero_add] at this
theorem pow21 {k : Nat} (h : k ≤ 21) : (40 * 2 ^ k : Int) ≤ 83886080 := by
 have : (2 ^ k : Nat) ≤ 2 ^ 21 := Nat.pow_le_pow_right (by decide) h
 have e : ((2 ^ k : Nat) : Int) = (2 ^ k : Int) := by simp
 omega
theorem rat_step {n k : Nat} {L : List Arc} {z : Bld} (hL : OkL n L) (hw : ∀ e ∈ L, e.w ≤ 40) (hn : n ≤ 51) (h : BInv n k z) (r : BRat n L k z) (hk : k < n) :
  (∀ x ∈ shortL n z.left (firstL n z.left z.gone), x.w ≤ 549755813888) ∧ BRat n L (k + 1) (bldStep n k z) := by
 obtain ⟨v0, v1, vg⟩ := bld_first h hk
 have hmay := short_may h.okl (v := firstL n z.left z.gone) h.wl v0 v1
 unfold bldStep
 generalize firstL n z.left z.gone = v at *
 have hlt : v.toNat < z.gone.length := by rw [h.gl]; omega
 have gset := isGone_set hlt
 have pw : (40 * 2 ^ (k + 1) : Int) = 2 * (40 * 2 ^ k) := by rw [Int.pow_succ]; omega
 have hback : ∀ {a b d : Int}, Walk z.left (-1) a b d → Walk L (-1) a b d := fun {a b d} hh => by
  induction hh with
  | nil => exact .nil
  | snoc y _ hy hf _ ih => rw [← hf] at ih; exact ih.trans (r.back y hy)
 have sabs : k + 1 ≤ 21 → ∀ x ∈ shortL n z.left v, x.w ≤ 40 * 2 ^ (k + 1) := fun hk1 x hx => by
  obtain ⟨p, hp, q, hq, _, rfl⟩ := mem_short.1 hx
  have h1 := r.abs (by omega) p (mem_inL.1 hp).1
  have h2 := r.abs (by omega) q (mem_outL.1 hq).1
  show p.w + q.w ≤ _
  omega
 have sback : ∀ x ∈ shortL n z.left v, Walk L (-1) x.f x.t x.w := fun x hx => by
  obtain ⟨p, hp, q, hq, _, rfl⟩ := mem_short.1 hx
  obtain ⟨hpL, hpt⟩ := mem_inL.1 hp
  obtain ⟨hqL, hqf⟩ := mem_outL.1 hq
  have w1 := r.back p hpL
  have w2 := r.back q hqL
  rw [hpt] at w1
  rw [hqf] at w2
  exact w1.trans w2
 have srat : ∀ x ∈ shortL n z.left v, ∀ d, Walk L (-1) x.f x.t d → x.w ≤ 83886080 * d := fun x hx d hd => by
  have hxm := (hmay x hx).1
  have hd1 := hd.one_le hL (fun e' => hxm.2.2.2.2.1 e')
  by_cases hk1 : k + 1 ≤ 21
  ·have h1 := sabs hk1 x hx
   have h2 := pow21 hk1
   omega
  ·obtain ⟨p, hp, q, hq, hneed, rfl⟩ := mem_short.1 hx
   obtain ⟨hpL, hpt⟩ := mem_inL.1 hp
   obtain ⟨hqL, hqf⟩ := mem_outL.1 hq
   have mp := h.okl.may p hpL
   have mq := h.okl.may q hqL
   have gp := (h.lg p hpL).1
   have gq := (h.lg q hqL).2
   show p.w + q.w ≤ 83886080 * d
   obtain ⟨d', hd', wl⟩ := r.keep p.f q.t d hd mp.1 mq.2.2.1 gp gq
   rcases Int.lt_or_le (p.w + q.w) d' with hlt' | hle
   ·omega
   ·have hpv : p.f ≠ v := by have := mp.2.2.2.2.1; omega
    rcases walk_split wl hpv with ⟨_, hc⟩ | ⟨d1, d2, h1, h2, h3⟩
    ·have few := settled_few h.okl (c := v) mp.1 mp.2.1 h.gl fun y hy => by
      have hwy := ((settled_dist h.okl v mp.1 mp.2.1).1 (show (⟨y.id, y.key⟩ : It) ∈ _ from hy)).1
      generalize y.key = dk at hwy
      generalize y.id = iy at hwy ⊢
      cases hwy with
      | nil => exact gp
      | snoc e _ he _ _ => exact (h.lg e he).2
     rw [h.cnt] at few
     have hwit := wit_few (s := 30) h.okl ⟨mp.1, mp.2.1⟩ ⟨mq.2.2.1, mq.2.2.2.1⟩ hpv hc hle (by omega)
     unfold needB at hneed
     have hwit' : witB n z.left p.f q.t v (p.w + q.w) 30 = true := hwit
     rw [hwit'] at hneed
     simp at hneed
    ·have r1 := r.rat p hpL d1 (by rw [hpt]; exact hback h1)
     have r2 := r.rat q hqL d2 (by rw [hqf]; exact hback h2)
     omega
 refine ⟨fun x hx => ?_, fun hk1 e he => ?_, fun e he d hd => ?_, fun a b d hd a0 b0 ag bg => ?_, fun e he => ?_⟩
 ·have hxm := (hmay x hx).1
  obtain ⟨d', _, hd', hb⟩ := short_walk hL hw (by decide) hxm.1 hxm.2.1 (sback x hx)
  have := srat x hx d' hd'
  omega
 ·rcases putAll_sub _ (mem_cutL.1 he).1 with h' | h'
  ·have := r.abs (by omega) e h'
   have := (h.okl.may e h').2.2.2.2.2.1
   omega
  ·exact sabs hk1 e h'
 ·rcases putAll_sub _ (mem_cutL.1 he).1 with h' | h'
  ·exact r.rat e h' d hd
  ·exact srat e h' d hd
 ·replace ag : isGone (z.gone.set v.toNat true) a.toNat = false := ag
  replace bg : isGone (z.gone.set v.toNat true) b.toNat = false := bg
  rw [gset] at ag bg
  simp at ag bg
  obtain ⟨d1, h1, w1⟩ := r.keep a b d hd a0 b0 ag.2 bg.2
  obtain ⟨d2, h2, w2⟩ := (keeps_to h.okl h.wl v0 v1 (fun e => ag.1 (by rw [e])) w1).1 (fun e => bg.1 (by rw [e]))
  exact ⟨d2, by omega, w2.mono fun e he hne => ⟨cut_put h.okl (fun x hx => ⟨(hmay x hx).2.2.1, (hmay x hx).2.2.2⟩) e he, hne⟩⟩
 ·rcases putAll_sub _ (mem_cutL.1 he).1 with h' | h'
  ·exact r.back e h'
  ·exact sback e h'
theorem bld_both {n : Nat} {L : List Arc} (hL : OkL n L) (hw : ∀ e ∈ L, e.w ≤ 40) (hn : n ≤ 51) : ∀ k, k ≤ n → BInv n k (bldN n L k) ∧ BRat n L k (bldN n L k)
 | 0, _ => ⟨bld_start hL hw, rat_start hL hw⟩
 | k + 1, h => by
  obtain ⟨h1, h2⟩ := bld_both hL hw hn k (by omega)
  obtain ⟨h3, h4⟩ := rat_step hL hw hn h1 h2 (by omega)
  exact ⟨bld_step h1 (by omega) h3, h4⟩
theorem bld_inv {n : Nat} {L : List Arc} (hL : OkL n L) (hw : ∀ e ∈ L, e.w ≤ 40) (hn : n ≤ 51) (k : Nat) (h : k ≤ n) : BInv n k (bldN n L k) := (bld_both hL hw hn k h).1
end Go.Den

namespace Go.Den
open Go
theorem put_keep {n : Nat} {l : List Arc} (h : OkL n l) {a y : Arc} (hy : y ∈ l) (hne : ¬ (y.f = a.f ∧ y.t = a.t)) : y ∈ (putL n l a).1 := by
 unfold putL
 split
 ·split
  ·split
   ·exact hy
   ·exact mem_insL.2 (.inr ⟨hy, hne⟩)
  ·exact mem_insL.2 (.inr ⟨hy, hne⟩)
 ·exact hy
theorem putAll_keep {n : Nat} : ∀ (xs : List Arc) {l : List Arc}, OkL n l → ∀ y ∈ l, (∀ a ∈ xs, ¬ (y.f = a.f ∧ y.t = a.t)) → y ∈ putAll n l xs
 | [], _, _, _, hy, _ => hy
 | a :: xs, _, h, y, hy, hn => putAll_keep xs (putL_ok h a) y (put_keep h hy (hn a (by simp))) fun b hb => hn b (by simp [hb])
structure BOwn (n : Nat) (L : List Arc) (k : Nat) (z : Bld) : Prop where
 own : ∀ y ∈ z.all, y.m < 0 → y ∈ L
 light : ∀ e ∈ L, ∃ y ∈ z.all, y.f = e.f ∧ y.t = e.t ∧ y.w ≤ e.w
 half : ∀ e ∈ z.all, 0 ≤ e.m → isGone z.gone e.m.toNat = true ∧ (∃ a ∈ z.all, ∃ b ∈ z.all, a.f = e.f ∧ a.t = e.m ∧ b.f = e.m ∧ b.t = e.t ∧ a.w + b.w = e.w) ∧
  (isGone z.gone e.f.toNat = true → z.rank.getD e.m.toNat 0 < z.rank.getD e.f.toNat 0) ∧ (isGone z.gone e.t.toNat = true → z.rank.getD e.m.toNat 0 < z.rank.getD e.t.toNat 0)
section
variable {n k : Nat} {L : List Arc} {z : Bld}
theorem step_keep (h : BInv n k z) (hk : k < n) {y : Arc} (hy : y ∈ z.all)
  (hg : isGone z.gone y.f.toNat = true ∨ isGone z.gone y.t.toNat = true ∨ y.f = firstL n z.left z.gone ∨ y.t = firstL n z.left z.gone) : y ∈ (bldStep n k z).all := by
 obtain ⟨v0, v1, vg⟩ := bld_first h hk
 unfold bldStep
 generalize firstL n z.left z.gone = v at *
 have hm := short_may h.okl (v := v) h.wl v0 v1
 refine putAll_keep _ h.oka y hy fun a ha => ?_
 obtain ⟨p, hp, q, hq, _, rfl⟩ := mem_short.1 ha
 have g1 := (h.lg p (mem_inL.1 hp).1).1
 have g2 := (h.lg q (mem_outL.1 hq).1).2
 obtain ⟨_, _, n1, n2⟩ := hm _ ha
 rintro ⟨e1, e2⟩
 have e1' : y.f = p.f := e1
 have e2' : y.t = q.t := e2
 rcases hg with hg | hg | hg | hg
 ·rw [e1', g1] at hg; cases hg
 ·rw [e2', g2] at hg; cases hg
 ·exact n1 (show p.f = v by omega)
 ·exact n2 (show q.t = v by omega)
end
def rankOf (rs : List Int) (v : Int) : Int := if 0 ≤ v ∧ v < rs.length then rs.getD v.toNat 0 else -1
def upL (A : List Arc) (rs : List Int) (v : Int) : List Arc := (outL A v).filter fun e => decide (rankOf rs v < rankOf rs e.t)
def downL (A : List Arc) (rs : List Int) (v : Int) : List Arc := (inL A v).filter fun e => decide (rankOf rs v < rankOf rs e.f)
inductive UpW (A : List Arc) (rs : List Int) (a : Int) : Int → Int → Prop where
 | nil : UpW A rs a a 0
 | snoc {v d : Int} (e : Arc) (h : UpW A rs a v d) (he : e ∈ A) (hf : e.f = v) (hr : rankOf rs e.f < rankOf rs e.t) : UpW A rs a e.t (d + e.w)
inductive DownW (A : List Arc) (rs : List Int) : Int → Int → Int → Prop where
 | nil (v : Int) : DownW A rs v v 0
 | snoc {u v d : Int} (e : Arc) (h : DownW A rs u v d) (he : e ∈ A) (hf : e.f = v) (hr : rankOf rs e.t < rankOf rs e.f) : DownW A rs u e.t (d + e.w)
theorem UpW.cons {A : List Arc} {rs : List Int} {x w d : Int} (e : Arc) (he : e ∈ A) (hr : rankOf rs e.f < rankOf rs e.t) (ht : e.t = x) (h : UpW A rs x w d) : UpW A rs e.f w (e.w + d) := by
 induction h with
 | nil => rw [Int.add_zero, ← ht]; have := UpW.snoc (a := e.f) e .nil he rfl hr; rwa [Int.zero_add] at this
 | snoc e' _ he' hf' hr' ih => rw [← Int.add_assoc]; exact .snoc e' ih he' hf' hr'
def UD (A : List Arc) (rs : List Int) (a b d : Int) : Prop := ∃ m d1 d2, UpW A rs a m d1 ∧ DownW A rs m b d2 ∧ d1 + d2 ≤ d
theorem Walk.last {n : Nat} {L : List Arc} (hL : OkL n L) {a : Int} : ∀ {b d : Int}, Walk L (-1) a b d → b ≠ a → ∃ e ∈ L, e.f = a ∧ e.t ≠ a ∧ ∃ d', Walk L (-1) e.t b d' ∧ e.w + d' ≤ d := by
 intro b d h
 induction h with
 | nil => intro hb; exact absurd rfl hb
 | @snoc x d e h he hf ht ih =>
  intro hb
  by_cases hx : x = a
  ·have := h.pos hL
   exact ⟨e, he, hf.trans hx, hb, 0, .nil, by omega⟩
  ·obtain ⟨e1, h1, h2, h3, d', h4, h5⟩ := ih hx
   exact ⟨e1, h1, h2, h3, d' + e.w, .snoc e h4 he hf ht, by omega⟩
section
variable {n : Nat} {L : List Arc} (hL : OkL n L) (hw : ∀ e ∈ L, e.w ≤ 40) (hn : n ≤ 51)
include hL hw hn
theorem bld_later : ∀ j k, k + j ≤ n → ∀ x : Nat, x < n →
  (isGone (bldN n L k).gone x = true → isGone (bldN n L (k + j)).gone x = true ∧ (bldN n L (k + j)).rank.getD x 0 = (bldN n L k).rank.getD x 0) ∧
  (isGone (bldN n L k).gone x = false → isGone (bldN n L (k + j)).gone x = true → (k : Int) ≤ (bldN n L (k + j)).rank.getD x 0)
 | 0, k, _, x, _ => ⟨fun h => ⟨h, rfl⟩, fun h h' => by rw [Nat.add_zero, h] at h'; cases h'⟩
 | j + 1, k, hk, x, hx => by
  obtain ⟨h1, h2⟩ := bld_later j k (by omega) x hx
  have hi := bld_inv hL hw hn (k + j) (by omega)
  obtain ⟨v0, v1, vg⟩ := bld_first hi (by omega)
  show (_ → isGone (bldStep n (k + j) (bldN n L (k + j))).gone x = true ∧ (bldStep n (k + j) (bldN n L (k + j))).rank.getD x 0 = _) ∧ (_ → isGone (bldStep n (k + j) (bldN n L (k + j))).gone x = true → _ ≤ (bldStep n (k + j) (bldN n L (k + j))).rank.getD x 0)
  unfold bldStep
  generalize firstL n (bldN n L (k + j)).left (bldN n L (k + j)).gone = v at *
  have hlt : v.toNat < (bldN n L (k + j)).gone.length := by rw [hi.gl]; omega
  have hltr : v.toNat < (bldN n L (k + j)).rank.length := by rw [hi.rl]; omega
  simp only [isGone_set hlt, getD_set hltr]
  refine ⟨fun hg => ?_, fun hg hg' => ?_⟩
  ·obtain ⟨g1, g2⟩ := h1 hg
   have : x ≠ v.toNat := fun e => by rw [e, vg] at g1; cases g1
   exact ⟨by rw [g1]; simp, by rw [if_neg this, g2]⟩
  ·by_cases e : x = v.toNat
   ·rw [if_pos e]; omega
   ·rw [if_neg e]
    simp [e] at hg'
    exact h2 hg hg'
theorem all_later : ∀ j k, k + j ≤ n → ∀ y ∈ (bldN n L k).all, (isGone (bldN n L k).gone y.f.toNat = true ∨ isGone (bldN n L k).gone y.t.toNat = true) → y ∈ (bldN n L (k + j)).all
 | 0, _, _, _, hy, _ => hy
 | j + 1, k, hk, y, hy, hg => by
  have ih := all_later j k (by omega) y hy hg
  have hi := bld_inv hL hw hn (k + j) (by omega)
  have hm := hi.oka.may y ih
  refine step_keep hi (by omega) ih ?_
  rcases hg with hg | hg
  ·exact .inl ((bld_later hL hw hn j k (by omega) y.f.toNat (by have := hm.1; have := hm.2.1; omega)).1 hg).1
  ·exact .inr (.inl ((bld_later hL hw hn j k (by omega) y.t.toNat (by have := hm.2.2.1; have := hm.2.2.2.1; omega)).1 hg).1)
theorem rank_val {x : Int} (h0 : 0 ≤ x) (h1 : x < n) : rankOf (bldN n L n).rank x = (bldN n L n).rank.getD x.toNat 0 := by
 unfold rankOf
 rw [(bld_inv hL hw hn n (Nat.le_refl n)).rl, if_pos ⟨h0, h1⟩]
theorem bitonic : ∀ j k, k + j = n → ∀ {a b d : Int}, Walk (bldN n L k).left (-1) a b d → 0 ≤ a → a < n → isGone (bldN n L k).gone a.toNat = false → isGone (bldN n L k).gone b.toNat = false → 0 ≤ b → b < n → UD (bldN n L n).all (bldN n L n).rank a b d
 | 0, k, hk, a, b, d, _, a0, a1, ag, _, _, _ => by
  have hk' : k = n := by omega
  subst hk'
  rw [bld_all (bld_inv hL hw hn k (Nat.le_refl k)) a.toNat (by omega)] at ag; cases ag
 | j + 1, k, hk, a, b, d, hwk, a0, a1, ag, bg, b0, b1 => by
  have hi := bld_inv hL hw hn k (by omega)
  obtain ⟨v0, v1, vg⟩ := bld_first hi (by omega)
  have hw' := hi.wl
  have hmay := short_may hi.okl (v := firstL n (bldN n L k).left (bldN n L k).gone) hw' v0 v1
  have ih := fun {a b d : Int} => bitonic j (k + 1) (by omega) (a := a) (b := b) (d := d)
  have hst : bldN n L (k + 1) = bldStep n k (bldN n L k) := rfl
  have hleft : (bldN n L (k + 1)).left = cutL (putAll n (bldN n L k).left (shortL n (bldN n L k).left (firstL n (bldN n L k).left (bldN n L k).gone))) (firstL n (bldN n L k).left (bldN n L k).gone) := rfl
  have hgone : (bldN n L (k + 1)).gone = (bldN n L k).gone.set (firstL n (bldN n L k).left (bldN n L k).gone).toNat true := rfl
  have hrank : (bldN n L (k + 1)).rank = (bldN n L k).rank.set (firstL n (bldN n L k).left (bldN n L k).gone).toNat (k : Int) := rfl
  have keep := fun y hy hg => step_keep hi (by omega) (y := y) hy hg
  rw [← hst] at keep
  generalize firstL n (bldN n L k).left (bldN n L k).gone = v at *
  have hlt : v.toNat < (bldN n L k).gone.length := by rw [hi.gl]; omega
  have hltr : v.toNat < (bldN n L k).rank.length := by rw [hi.rl]; omega
  have gset := isGone_set hlt
  have hvg : isGone (bldN n L (k + 1)).gone v.toNat = true := by rw [hgone, gset]; simp
  have hvr : rankOf (bldN n L n).rank v = (k : Int) := by
   rw [rank_val hL hw hn v0 v1]
   have := ((bld_later hL hw hn j (k + 1) (by omega) v.toNat (by omega)).1 hvg).2
   rw [show k + 1 + j = n by omega] at this
   rw [this, hrank, getD_set hltr, if_pos rfl]
  have stillg : ∀ x : Int, 0 ≤ x → x ≠ v → isGone (bldN n L k).gone x.toNat = false → isGone (bldN n L (k + 1)).gone x.toNat = false := fun x h0 hx hg => by
   rw [hgone, gset, hg]; simp; omega
  have higher : ∀ x : Int, 0 ≤ x → x < n → x ≠ v → isGone (bldN n L k).gone x.toNat = false → (k : Int) < rankOf (bldN n L n).rank x := fun x h0 h1 hx hg => by
   rw [rank_val hL hw hn h0 h1]
   have := (bld_later hL hw hn j (k + 1) (by omega) x.toNat (by omega)).2 (stillg x h0 hx hg)
   rw [show k + 1 + j = n by omega] at this
   have := this (bld_all (bld_inv hL hw hn n (Nat.le_refl n)) x.toNat (by omega))
   omega
  have away : ∀ {a b d : Int}, Walk (bldN n L k).left (-1) a b d → 0 ≤ a → a < n → a ≠ v → b ≠ v → isGone (bldN n L k).gone a.toNat = false → isGone (bldN n L k).gone b.toNat = false → 0 ≤ b → b < n → UD (bldN n L n).all (bldN n L n).rank a b d := fun {a b d} hwk a0 a1 ha hb ag bg b0 b1 => by
   obtain ⟨d', hd', hw2⟩ := (keeps_to hi.okl hw' v0 v1 ha hwk).1 hb
   have hw3 : Walk (bldN n L (k + 1)).left (-1) a b d' := hw2.mono fun e he hne => by
    rw [hleft]
    exact ⟨cut_put hi.okl (fun x hx => ⟨(hmay x hx).2.2.1, (hmay x hx).2.2.2⟩) e he, hne⟩
   obtain ⟨m, d1, d2, h1, h2, h3⟩ := ih hw3 a0 a1 (stillg a a0 ha ag) (stillg b b0 hb bg) b0 b1
   exact ⟨m, d1, d2, h1, h2, by omega⟩
  have last : ∀ y ∈ (bldN n L k).left, (y.f = v ∨ y.t = v) → y ∈ (bldN n L n).all := fun y hy hv => by
   have h1 := keep y (left_all hi hy) (by rcases hv with h | h; exact .inr (.inr (.inl h)); exact .inr (.inr (.inr h)))
   have := all_later hL hw hn j (k + 1) (by omega) y h1 (by rcases hv with h | h; exact .inl (by rw [h]; exact hvg); exact .inr (by rw [h]; exact hvg))
   rwa [show k + 1 + j = n by omega] at this
  by_cases hav : a = v
  ·by_cases hbv : b = v
   ·refine ⟨a, 0, 0, .nil, ?_, by have := hwk.pos hi.okl; omega⟩
    rw [hbv, ← hav]; exact .nil a
   ·obtain ⟨e, he, hef, het, d', hw2, hd'⟩ := hwk.last hi.okl (by rw [hav]; exact hbv)
    have hm := hi.okl.may e he
    have hg := hi.lg e he
    have hetv : e.t ≠ v := fun e' => het (e'.trans hav.symm)
    obtain ⟨m, d1, d2, h1, h2, h3⟩ := away hw2 hm.2.2.1 hm.2.2.2.1 hetv hbv hg.2 bg b0 b1
    have hup : UpW (bldN n L n).all (bldN n L n).rank e.f m (e.w + d1) := h1.cons e (last e he (.inl (hef.trans hav))) (by rw [hef, hav, hvr]; exact higher e.t hm.2.2.1 hm.2.2.2.1 hetv hg.2) rfl
    rw [hef] at hup
    exact ⟨m, e.w + d1, d2, hup, h2, by omega⟩
  ·by_cases hbv : b = v
   ·cases hwk with
    | nil => exact absurd hbv hav
    | @snoc x d0 e h he hf ht =>
     have hm := hi.okl.may e he
     have hg := hi.lg e he
     have hxv : e.f ≠ v := by have := hm.2.2.2.2.1; omega
     rw [← hf] at h
     obtain ⟨m, d1, d2, h1, h2, h3⟩ := away h a0 a1 hav hxv ag hg.1 hm.1 hm.2.1
     refine ⟨m, d1, d2 + e.w, h1, .snoc e h2 (last e he (.inr hbv)) rfl (by rw [hbv, hvr]; exact higher e.f hm.1 hm.2.1 hxv hg.1), by omega⟩
   ·exact away hwk a0 a1 hav hbv ag bg b0 b1
theorem all_back : ∀ k, k ≤ n → ∀ y ∈ (bldN n L k).all, Walk L (-1) y.f y.t y.w
 | 0, _, y, hy => by
  have hy' : y ∈ L := hy
  have := Walk.snoc (a := y.f) y (.nil (L := L) (c := -1)) hy' rfl (by have := (hL.may y hy').2.2.1; omega)
  rwa [Int.zero_add] at this
 | k + 1, hk, y, hy => by
  have hi := bld_inv hL hw hn k (by omega)
  have ih := all_back k (by omega)
  rcases putAll_sub _ (show y ∈ putAll n _ _ from hy) with h | h
  ·exact ih y h
  ·obtain ⟨p, hp, q, hq, _, rfl⟩ := mem_short.1 h
   obtain ⟨hpL, hpt⟩ := mem_inL.1 hp
   obtain ⟨hqL, hqf⟩ := mem_outL.1 hq
   have w1 := ih p (left_all hi hpL)
   have w2 := ih q (left_all hi hqL)
   rw [hpt] at w1
   rw [hqf] at w2
   exact w1.trans w2
theorem up_back {a b d : Int} (h : UpW (bldN n L n).all (bldN n L n).rank a b d) : Walk L (-1) a b d := by
 induction h with
 | nil => exact .nil
 | snoc e _ he hf _ ih => rw [← hf] at ih; exact ih.trans (all_back hL hw hn n (Nat.le_refl n) e he)
theorem down_back {a b d : Int} (h : DownW (bldN n L n).all (bldN n L n).rank a b d) : Walk L (-1) a b d := by
 induction h with
 | nil => exact .nil
 | snoc e _ he hf _ ih => rw [← hf] at ih; exact ih.trans (all_back hL hw hn n (Nat.le_refl n) e he)
theorem ud_iff {a b : Int} (a0 : 0 ≤ a) (a1 : a < n) (b0 : 0 ≤ b) (b1 : b < n) :
  (∀ d, Walk L (-1) a b d → UD (bldN n L n).all (bldN n L n).rank a b d) ∧ ∀ m d1 d2, UpW (bldN n L n).all (bldN n L n).rank a m d1 → DownW (bldN n L n).all (bldN n L n).rank m b d2 → Walk L (-1) a b (d1 + d2) := by
 have g0 : ∀ v, isGone (List.replicate n false) v = false := fun v => by unfold isGone; rw [List.getD_eq_getElem?_getD, List.getElem?_replicate]; split <;> rfl
 exact ⟨fun d hd => bitonic hL hw hn n 0 (by omega) hd a0 a1 (g0 _) (g0 _) b0 b1, fun m d1 d2 h1 h2 => (up_back hL hw hn h1).trans (down_back hL hw hn h2)⟩
end
end Go.Den
