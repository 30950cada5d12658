/-
  Numbers are settled, the nearest first: what is found is the distance. No program in sight.
-/
import Derived.Test.YtadacfoiphklgaaMpArc
namespace Go.Den
open Go

structure It where
  id : Int
  key : Int
  deriving DecidableEq
def itlt (x y : It) : Bool := decide (x.key < y.key) || (decide (x.key = y.key) && decide (x.id < y.id))
theorem itlt_iff {x y : It} : itlt x y = true ↔ x.key < y.key ∨ (x.key = y.key ∧ x.id < y.id) := by simp [itlt]
theorem itlt_tri (x y : It) : itlt x y = true ∨ x = y ∨ itlt y x = true := by
  obtain ⟨a, b⟩ := x
  obtain ⟨c, d⟩ := y
  simp only [itlt_iff, It.mk.injEq]
  omega
abbrev QSrt (q : List It) : Prop := q.Pairwise fun x y => itlt x y = true
theorem QSrt.ext {l m : List It} (h : QSrt l) (h' : QSrt m) (he : ∀ x, x ∈ l ↔ x ∈ m) : l = m :=
  pairwise_ext (fun a h => by rw [itlt_iff] at h; omega) (fun a b h h' => by rw [itlt_iff] at h h'; omega) h h' he
def insQ (q : List It) (x : It) : List It := q.filter (fun y => itlt y x) ++ x :: q.filter (fun y => itlt x y)
theorem mem_insQ {q : List It} {x y : It} : y ∈ insQ q x ↔ y = x ∨ y ∈ q := by
  unfold insQ
  simp only [List.mem_append, List.mem_cons, List.mem_filter]
  constructor
  · rintro (⟨h, _⟩ | rfl | ⟨h, _⟩) <;> simp_all
  · rintro (rfl | h)
    · simp
    · rcases itlt_tri y x with h1 | rfl | h1 <;> simp_all
theorem QSrt.ins {q : List It} (h : QSrt q) (x : It) : QSrt (insQ q x) := by
  unfold insQ QSrt
  rw [List.pairwise_append]
  refine ⟨List.Pairwise.filter _ h, ?_, fun a ha b hb => ?_⟩
  · rw [List.pairwise_cons]
    exact ⟨fun b hb => (List.mem_filter.1 hb).2, List.Pairwise.filter _ h⟩
  · have h1 := itlt_iff.1 (List.mem_filter.1 ha).2
    rcases List.mem_cons.1 hb with rfl | hb
    · exact itlt_iff.2 h1
    · have h2 := itlt_iff.1 (List.mem_filter.1 hb).2
      rw [itlt_iff]; omega
/-- Each number but once. -/
def One (q : List It) : Prop := ∀ x ∈ q, ∀ y ∈ q, x.id = y.id → x = y
def keyQ (q : List It) (v : Int) : Option Int := (q.find? fun y => decide (y.id = v)).map (·.key)
theorem keyQ_some {q : List It} {v k : Int} (h : keyQ q v = some k) : ⟨v, k⟩ ∈ q := by
  unfold keyQ at h
  cases hf : q.find? (fun y => decide (y.id = v)) with
  | none => rw [hf] at h; cases h
  | some y =>
    rw [hf] at h
    have h1 := List.mem_of_find?_eq_some hf
    have h2 := List.find?_some hf
    obtain ⟨a, b⟩ := y
    simp at h h2
    subst h h2
    exact h1
theorem keyQ_none {q : List It} {v : Int} (h : keyQ q v = none) : ∀ x ∈ q, x.id ≠ v := by
  intro x hx
  unfold keyQ at h
  simp only [Option.map_eq_none_iff, List.find?_eq_none] at h
  simpa using h x hx
theorem keyQ_mem {q : List It} (h : One q) {x : It} (hx : x ∈ q) : keyQ q x.id = some x.key := by
  cases hk : keyQ q x.id with
  | none => exact absurd rfl (keyQ_none hk x hx)
  | some k => have := h _ (keyQ_some hk) x hx rfl; rw [← this]
/-- A number is put there, or comes nearer. -/
def lowQ (q : List It) (v k : Int) : Bool := match keyQ q v with
  | some k0 => decide (k0 ≤ k)
  | none => false
def pushQ (q : List It) (v k : Int) : List It × Bool := if lowQ q v k then (q, false) else (insQ (q.filter fun y => decide (y.id ≠ v)) ⟨v, k⟩, true)

theorem push_mem {q : List It} {v k : Int} {y : It} (h : y ∈ (pushQ q v k).1) : y ∈ q ∨ y = ⟨v, k⟩ := by
  unfold pushQ at h
  split at h
  · exact .inl h
  · rcases mem_insQ.1 h with rfl | h
    · exact .inr rfl
    · exact .inl (List.mem_filter.1 h).1
theorem push_keep {q : List It} (h1 : One q) {v k : Int} {x : It} (hx : x ∈ q) : ∃ y ∈ (pushQ q v k).1, y.id = x.id ∧ y.key ≤ x.key := by
  unfold pushQ
  split
  · exact ⟨x, hx, rfl, Int.le_refl _⟩
  · rename_i hl
    by_cases e : x.id = v
    · refine ⟨⟨v, k⟩, mem_insQ.2 (.inl rfl), e.symm, ?_⟩
      have := keyQ_mem h1 hx
      unfold lowQ at hl
      rw [← e, this] at hl
      simp at hl
      show k ≤ x.key
      omega
    · exact ⟨x, mem_insQ.2 (.inr (List.mem_filter.2 ⟨hx, by simpa using e⟩)), rfl, Int.le_refl _⟩
theorem push_low {q : List It} {v k : Int} : ∃ y ∈ (pushQ q v k).1, y.id = v ∧ y.key ≤ k := by
  unfold pushQ
  split
  · rename_i hl
    unfold lowQ at hl
    cases hk : keyQ q v with
    | none => rw [hk] at hl; cases hl
    | some k0 => rw [hk] at hl; exact ⟨⟨v, k0⟩, keyQ_some hk, rfl, by simpa using hl⟩
  · exact ⟨⟨v, k⟩, mem_insQ.2 (.inl rfl), rfl, Int.le_refl _⟩
theorem push_srt {q : List It} (h : QSrt q) (v k : Int) : QSrt (pushQ q v k).1 := by
  unfold pushQ
  split
  · exact h
  · exact QSrt.ins (List.Pairwise.filter _ h) _
theorem push_one {q : List It} (h : One q) (v k : Int) : One (pushQ q v k).1 := by
  unfold pushQ
  split
  · exact h
  · intro x hx y hy e
    rcases mem_insQ.1 hx with rfl | hx <;> rcases mem_insQ.1 hy with rfl | hy
    · rfl
    · have := (List.mem_filter.1 hy).2; simp at this; exact absurd e.symm this
    · have := (List.mem_filter.1 hx).2; simp at this; exact absurd e this
    · exact h x (List.mem_filter.1 hx).1 y (List.mem_filter.1 hy).1 e

/-! ### Rows of arcs, that never go to one number -/

inductive Walk (L : List Arc) (c a : Int) : Int → Int → Prop where
  | nil : Walk L c a a 0
  | snoc {v d : Int} (e : Arc) (h : Walk L c a v d) (he : e ∈ L) (hf : e.f = v) (ht : e.t ≠ c) : Walk L c a e.t (d + e.w)

/-! ### Settling -/

def isIn (s : List It) (v : Int) : Bool := s.any fun x => decide (x.id = v)
theorem isIn_iff {s : List It} {v : Int} : isIn s v = true ↔ ∃ x ∈ s, x.id = v := by simp [isIn]
def pushes (c : Int) (s : List It) (d : Int) (q : List It) (l : List Arc) : List It := l.foldl (fun q a => if a.t = c ∨ isIn s a.t = true then q else (pushQ q a.t (d + a.w)).1) q
def stepQ (L : List Arc) (c : Int) (z : List It × List It) : List It × List It := match z.1 with
  | [] => ([], z.2)
  | x :: q => (pushes c (z.2 ++ [x]) x.key q (outL L x.id), z.2 ++ [x])
def runQ (L : List Arc) (c a : Int) : Nat → List It × List It
  | 0 => ([⟨a, 0⟩], [])
  | n + 1 => stepQ L c (runQ L c a n)

theorem pushes_snoc (c : Int) (s : List It) (d : Int) (q : List It) (l : List Arc) (a : Arc) : pushes c s d q (l ++ [a]) = if a.t = c ∨ isIn s a.t = true then pushes c s d q l else (pushQ (pushes c s d q l) a.t (d + a.w)).1 := by simp [pushes]
theorem pushes_cons (c : Int) (s : List It) (d : Int) (q : List It) (l : List Arc) (a : Arc) : pushes c s d q (a :: l) = pushes c s d (if a.t = c ∨ isIn s a.t = true then q else (pushQ q a.t (d + a.w)).1) l := rfl

theorem pushes_ok {c : Int} {s : List It} {d : Int} : ∀ {l : List Arc} {q : List It}, QSrt q → One q → QSrt (pushes c s d q l) ∧ One (pushes c s d q l) ∧
    (∀ y ∈ pushes c s d q l, y ∈ q ∨ ∃ e ∈ l, e.t ≠ c ∧ isIn s e.t = false ∧ y = ⟨e.t, d + e.w⟩) ∧ (∀ x ∈ q, ∃ y ∈ pushes c s d q l, y.id = x.id ∧ y.key ≤ x.key) ∧
    (∀ e ∈ l, e.t ≠ c → isIn s e.t = false → ∃ y ∈ pushes c s d q l, y.id = e.t ∧ y.key ≤ d + e.w)
  | [], q, h1, h2 => ⟨h1, h2, fun y hy => .inl hy, fun x hx => ⟨x, hx, rfl, Int.le_refl _⟩, by simp⟩
  | a :: l, q, h1, h2 => by
    rw [pushes_cons]
    by_cases hc : a.t = c ∨ isIn s a.t = true
    · rw [if_pos hc]
      obtain ⟨g1, g2, g3, g4, g5⟩ := pushes_ok (c := c) (s := s) (d := d) (l := l) h1 h2
      refine ⟨g1, g2, fun y hy => (g3 y hy).imp id fun ⟨e, he, r⟩ => ⟨e, by simp [he], r⟩, g4, fun e he n1 n2 => ?_⟩
      rcases List.mem_cons.1 he with rfl | he
      · rcases hc with hc | hc
        · exact absurd hc n1
        · rw [hc] at n2; cases n2
      · exact g5 e he n1 n2
    · rw [if_neg hc]
      obtain ⟨g1, g2, g3, g4, g5⟩ := pushes_ok (c := c) (s := s) (d := d) (l := l) (push_srt h1 a.t (d + a.w)) (push_one h2 a.t (d + a.w))
      have hc1 : a.t ≠ c := fun e => hc (.inl e)
      have hc2 : isIn s a.t = false := by cases h : isIn s a.t with
        | false => rfl
        | true => exact absurd (.inr h) hc
      refine ⟨g1, g2, fun y hy => ?_, fun x hx => ?_, fun e he n1 n2 => ?_⟩
      · rcases g3 y hy with hq | ⟨e, he, r⟩
        · rcases push_mem hq with hq | rfl
          · exact .inl hq
          · exact .inr ⟨a, by simp, hc1, hc2, rfl⟩
        · exact .inr ⟨e, by simp [he], r⟩
      · obtain ⟨y, hy, e1, e2⟩ := push_keep h2 (v := a.t) (k := d + a.w) hx
        obtain ⟨z, hz, e3, e4⟩ := g4 y hy
        exact ⟨z, hz, e3.trans e1, Int.le_trans e4 e2⟩
      · rcases List.mem_cons.1 he with rfl | he
        · obtain ⟨y, hy, e1, e2⟩ := push_low (q := q) (v := e.t) (k := d + e.w)
          obtain ⟨z, hz, e3, e4⟩ := g4 y hy
          exact ⟨z, hz, e3.trans e1, Int.le_trans e4 e2⟩
        · exact g5 e he n1 n2

structure SInv (m : Nat) (L : List Arc) (c a : Int) (q s : List It) : Prop where
  srt : QSrt q
  one : One q
  dis : (s.map (·.id)).Nodup
  far : ∀ x ∈ q, isIn s x.id = false
  walk : ∀ x ∈ s ++ q, Walk L c a x.id x.key
  src : ⟨a, 0⟩ ∈ s ++ q
  clo : ∀ x ∈ s, ∀ e ∈ L, e.f = x.id → e.t ≠ c → ∃ y ∈ s ++ q, y.id = e.t ∧ y.key ≤ x.key + e.w
  mono : ∀ x ∈ s, ∀ y ∈ q, x.key ≤ y.key
  low : ∀ x ∈ s, ∀ d, Walk L c a x.id d → x.key ≤ d
  bnd : ∀ x ∈ s ++ q, 0 ≤ x.key ∧ x.key ≤ s.length * 1099511627776 ∧ 0 ≤ x.id ∧ x.id < m

theorem SInv.reach {m : Nat} {L : List Arc} {c a : Int} {q s : List It} (h : SInv m L c a q s) (hL : OkL m L) {v d : Int} (hw : Walk L c a v d) : (∃ x ∈ s, x.id = v ∧ x.key ≤ d) ∨ ∃ y ∈ q, y.key ≤ d := by
  induction hw with
  | nil =>
    rcases List.mem_append.1 h.src with hs | hq
    · exact .inl ⟨_, hs, rfl, Int.le_refl _⟩
    · exact .inr ⟨_, hq, Int.le_refl _⟩
  | snoc e _ he hf ht ih =>
    rcases ih with ⟨x, hx, hv, hd⟩ | ⟨y, hy, hd⟩
    · obtain ⟨y, hy, e1, e2⟩ := h.clo x hx e he (hf.trans hv.symm) ht
      rcases List.mem_append.1 hy with hs | hq
      · exact .inl ⟨y, hs, e1, by omega⟩
      · exact .inr ⟨y, hq, by omega⟩
    · have := (hL.may e he).2.2.2.2.2.1
      exact .inr ⟨y, hy, by omega⟩

theorem SInv.step {m : Nat} {L : List Arc} {c a : Int} {q s : List It} (h : SInv m L c a q s) (hL : OkL m L) : SInv m L c a (stepQ L c (q, s)).1 (stepQ L c (q, s)).2 := by
  cases q with
  | nil => exact h
  | cons x q =>
    have hq := List.pairwise_cons.1 h.srt
    have hone : One q := fun y hy z hz => h.one y (by simp [hy]) z (by simp [hz])
    obtain ⟨g1, g2, g3, g4, g5⟩ := pushes_ok (c := c) (s := s ++ [x]) (d := x.key) (l := outL L x.id) hq.2 hone
    show SInv m L c a (pushes c (s ++ [x]) x.key q (outL L x.id)) (s ++ [x])
    generalize pushes c (s ++ [x]) x.key q (outL L x.id) = p at *
    have hxs : isIn s x.id = false := h.far x (by simp)
    have hxw := h.walk x (by simp)
    have hxb := h.bnd x (by simp)
    have inS : ∀ v, isIn (s ++ [x]) v = false ↔ isIn s v = false ∧ x.id ≠ v := fun v => by simp [isIn]
    have low : ∀ d, Walk L c a x.id d → x.key ≤ d := fun d hw => by
      rcases h.reach hL hw with ⟨y, hy, hv, _⟩ | ⟨y, hy, hd⟩
      · have : isIn s x.id = true := isIn_iff.2 ⟨y, hy, hv⟩
        rw [hxs] at this; cases this
      · rcases List.mem_cons.1 hy with rfl | hy
        · exact hd
        · have := itlt_iff.1 (hq.1 y hy); omega
    have hold : ∀ y ∈ s ++ (x :: q), ∃ z ∈ s ++ [x] ++ p, z.id = y.id ∧ z.key ≤ y.key := fun y hy => by
      rcases List.mem_append.1 hy with hy | hy
      · exact ⟨y, by simp [hy], rfl, Int.le_refl _⟩
      · rcases List.mem_cons.1 hy with rfl | hy
        · exact ⟨y, by simp, rfl, Int.le_refl _⟩
        · obtain ⟨z, hz, r⟩ := g4 y hy
          exact ⟨z, by simp [hz], r⟩
    refine ⟨g1, g2, ?_, ?_, ?_, ?_, ?_, ?_, ?_, ?_⟩
    · rw [List.map_append, List.nodup_append]
      refine ⟨h.dis, by simp, fun u hu v hv => ?_⟩
      simp at hv
      subst hv
      obtain ⟨y, hy, rfl⟩ := List.mem_map.1 hu
      intro e
      have : isIn s x.id = true := isIn_iff.2 ⟨y, hy, e⟩
      rw [hxs] at this; cases this
    · intro y hy
      rcases g3 y hy with hyq | ⟨e, _, _, h2, rfl⟩
      · refine (inS _).2 ⟨h.far y (by simp [hyq]), fun e => ?_⟩
        have := h.one x (by simp) y (by simp [hyq]) e
        subst this
        have := itlt_iff.1 (hq.1 x hyq); omega
      · exact h2
    · intro y hy
      rcases List.mem_append.1 hy with hy | hy
      · exact h.walk y (by rcases List.mem_append.1 hy with hy | hy <;> simp_all)
      · rcases g3 y hy with hyq | ⟨e, he, h1, _, rfl⟩
        · exact h.walk y (by simp [hyq])
        · obtain ⟨heL, hef⟩ := mem_outL.1 he
          exact Walk.snoc e hxw heL hef h1
    · rcases List.mem_append.1 h.src with hs | hs
      · simp [hs]
      · rcases List.mem_cons.1 hs with hs | hs
        · simp [hs]
        · -- the first one is the source itself till it is settled
          obtain ⟨z, hz, e1, e2⟩ := g4 _ hs
          have := low 0
          have hk := itlt_iff.1 (hq.1 _ hs)
          have := hxb.1
          simp only at hk e1 e2
          have hzb : 0 ≤ z.key := by
            rcases g3 z hz with hzq | ⟨e, he, _, _, rfl⟩
            · exact (h.bnd z (by simp [hzq])).1
            · have := (hL.may e (mem_outL.1 he).1).2.2.2.2.2.1; show 0 ≤ x.key + e.w; omega
          have : z = ⟨a, 0⟩ := by obtain ⟨i, k⟩ := z; simp only at *; subst e1; congr 1; omega
          rw [← this]; simp [hz]
    · intro y hy e he hf ht
      rcases List.mem_append.1 hy with hy | hy
      · obtain ⟨z, hz, e1, e2⟩ := h.clo y hy e he hf ht
        obtain ⟨u, hu, e3, e4⟩ := hold z hz
        exact ⟨u, hu, e3.trans e1, Int.le_trans e4 e2⟩
      · simp at hy
        subst hy
        cases hin : isIn (s ++ [y]) e.t with
        | false =>
          obtain ⟨z, hz, r⟩ := g5 e (mem_outL.2 ⟨he, hf⟩) ht hin
          exact ⟨z, by simp [hz], r⟩
        | true =>
          obtain ⟨z, hz, hzt⟩ := isIn_iff.1 hin
          refine ⟨z, by simp only [List.mem_append]; exact .inl (by simpa using hz), hzt, ?_⟩
          have hw := Walk.snoc e hxw he hf ht
          rcases List.mem_append.1 hz with hz | hz
          · exact h.low z hz _ (hzt ▸ hw)
          · simp at hz; subst hz
            exact low _ (hzt ▸ hw)
    · intro y hy z hz
      have hxz : x.key ≤ z.key := by
        rcases g3 z hz with hzq | ⟨e, he, _, _, rfl⟩
        · have := itlt_iff.1 (hq.1 z hzq); omega
        · have := (hL.may e (mem_outL.1 he).1).2.2.2.2.2.1; show x.key ≤ x.key + e.w; omega
      rcases List.mem_append.1 hy with hy | hy
      · exact Int.le_trans (h.mono y hy x (by simp)) hxz
      · simp at hy; subst hy; exact hxz
    · intro y hy
      rcases List.mem_append.1 hy with hy | hy
      · exact h.low y hy
      · simp at hy; subst hy; exact low
    · have len : (s ++ [x]).length = s.length + 1 := by simp
      intro y hy
      rw [len]
      have old : ∀ y ∈ s ++ (x :: q), 0 ≤ y.key ∧ y.key ≤ ((s.length + 1 : Nat) : Int) * 1099511627776 ∧ 0 ≤ y.id ∧ y.id < m := fun y hy => by
        obtain ⟨b1, b2, b3⟩ := h.bnd y hy
        exact ⟨b1, by omega, b3⟩
      rcases List.mem_append.1 hy with hy | hy
      · exact old y (by rcases List.mem_append.1 hy with hy | hy <;> simp_all)
      · rcases g3 y hy with hyq | ⟨e, he, _, _, rfl⟩
        · exact old y (by simp [hyq])
        · have hm := hL.may e (mem_outL.1 he).1
          obtain ⟨_, _, m1, m2, _, m3, m4, _⟩ := hm
          refine ⟨?_, ?_, m1, m2⟩
          · show 0 ≤ x.key + e.w; omega
          · show x.key + e.w ≤ _; omega

theorem run_inv {m : Nat} {L : List Arc} (hL : OkL m L) (c : Int) {a : Int} (ha : 0 ≤ a) (ha' : a < m) : ∀ n, SInv m L c a (runQ L c a n).1 (runQ L c a n).2
  | 0 => by
    refine ⟨List.pairwise_singleton _ _, ?_, List.nodup_nil, by simp [runQ, isIn], ?_, by simp [runQ], by simp [runQ], by simp [runQ], by simp [runQ], ?_⟩
    · intro x hx y hy _; simp [runQ] at hx hy; rw [hx, hy]
    · intro x hx; simp [runQ] at hx; subst hx; exact Walk.nil
    · intro x hx; simp [runQ] at hx; subst hx; exact ⟨Int.le_refl _, by simp [runQ], ha, ha'⟩
  | n + 1 => (run_inv hL c ha ha' n).step hL

/-- Behind each step one more is settled, or none is left. -/
theorem run_len (L : List Arc) (c a : Int) : ∀ n, (runQ L c a n).2.length = n ∨ ((runQ L c a n).1 = [] ∧ (runQ L c a n).2.length ≤ n)
  | 0 => .inl rfl
  | n + 1 => by
    have ih := run_len L c a n
    show (stepQ L c (runQ L c a n)).2.length = n + 1 ∨ ((stepQ L c (runQ L c a n)).1 = [] ∧ _)
    cases hz : runQ L c a n with
    | mk q s =>
      rw [hz] at ih
      cases q with
      | nil =>
        right
        refine ⟨rfl, ?_⟩
        show (runQ L c a (n + 1)).2.length ≤ n + 1
        have e : (runQ L c a (n + 1)).2 = s := by show (stepQ L c (runQ L c a n)).2 = s; rw [hz]; rfl
        rw [e]
        rcases ih with h | h
        · simp only at h; omega
        · have := h.2; simp only at this; omega
      | cons x q => left; rcases ih with h | ⟨h, _⟩
                    · simp [stepQ] at h ⊢; omega
                    · cases h
theorem nodup_len : ∀ {m : Nat} {l : List Int}, l.Nodup → (∀ x ∈ l, 0 ≤ x ∧ x < m) → l.length ≤ m
  | 0, l, _, hb => by
    cases l with
    | nil => simp
    | cons x l => have := hb x (by simp); omega
  | m + 1, l, h, hb => by
    have one : ∀ (l : List Int), l.Nodup → l.length ≤ (l.filter fun x => decide (x ≠ (m : Int))).length + 1 := by
      intro l
      induction l with
      | nil => intro _; simp
      | cons x l ih =>
        intro hn
        rw [List.nodup_cons] at hn
        by_cases e : x = (m : Int)
        · have : l.filter (fun x => decide (x ≠ (m : Int))) = l := List.filter_eq_self.2 fun y hy => by
            simp only [ne_eq, decide_eq_true_eq]
            rintro rfl
            exact hn.1 (e ▸ hy)
          simp only [List.filter_cons]
          rw [this]
          simp [e]
        · have := ih hn.2
          simp only [List.filter_cons, List.length_cons]
          rw [if_pos (by simpa using e)]
          simp only [List.length_cons]; omega
    have ih := nodup_len (m := m) (l := l.filter fun x => decide (x ≠ (m : Int))) (List.Pairwise.filter _ h) fun x hx => by
      have h1 := hb x (List.mem_filter.1 hx).1
      have h2 : x ≠ (m : Int) := by simpa using (List.mem_filter.1 hx).2
      omega
    have := one l h
    omega
theorem SInv.len {m : Nat} {L : List Arc} {c a : Int} {q s : List It} (h : SInv m L c a q s) : s.length ≤ m := by
  have := nodup_len h.dis fun v hv => by obtain ⟨x, hx, rfl⟩ := List.mem_map.1 hv; exact (h.bnd x (by simp [hx])).2.2
  simpa using this
theorem SInv.len_q {m : Nat} {L : List Arc} {c a : Int} {x : It} {q s : List It} (h : SInv m L c a (x :: q) s) : s.length < m := by
  have hn : ((s.map (·.id)) ++ [x.id]).Nodup := by
    rw [List.nodup_append]
    refine ⟨h.dis, by simp, fun u hu v hv => ?_⟩
    simp at hv; subst hv
    obtain ⟨y, hy, rfl⟩ := List.mem_map.1 hu
    intro e
    have := h.far x (by simp)
    rw [isIn_iff.2 ⟨y, hy, e⟩] at this; cases this
  have := nodup_len (m := m) hn fun v hv => by
    rcases List.mem_append.1 hv with hv | hv
    · obtain ⟨y, hy, rfl⟩ := List.mem_map.1 hv; exact (h.bnd y (by simp [hy])).2.2
    · simp at hv; subst hv; exact (h.bnd x (by simp)).2.2
  simp at this; omega

section
variable {m : Nat} {L : List Arc} (hL : OkL m L) (c : Int) {a : Int} (ha : 0 ≤ a) (ha' : a < m)
include hL ha ha'
theorem run_done {n : Nat} (hn : m ≤ n) : (runQ L c a n).1 = [] := by
  have hi := run_inv hL c ha ha' n
  cases hz : runQ L c a n with
  | mk q s =>
    rw [hz] at hi
    cases q with
    | nil => rfl
    | cons x q =>
      have h1 := hi.len_q
      rcases run_len L c a n with h | ⟨h, _⟩
      · rw [hz] at h; simp only at h h1; omega
      · rw [hz] at h; cases h
omit hL ha ha' in
theorem run_take (n : Nat) : ∀ k, (runQ L c a n).2 = ((runQ L c a (n + k)).2).take n
  | 0 => by
    rcases run_len L c a n with h | ⟨_, h⟩
    · rw [Nat.add_zero, List.take_of_length_le (by omega)]
    · rw [Nat.add_zero, List.take_of_length_le h]
  | k + 1 => by
    rw [run_take n k]
    show _ = (stepQ L c (runQ L c a (n + k))).2.take n
    have hl := run_len L c a (n + k)
    cases hz : runQ L c a (n + k) with
    | mk q s =>
      rw [hz] at hl
      cases q with
      | nil => rfl
      | cons x q =>
        rcases hl with h | ⟨h, _⟩
        · simp only [stepQ] at h ⊢
          rw [List.take_append_of_le_length (by omega)]
        · cases h
omit hL ha ha' in
/-- All that are settled, in their order. -/
def settled (m : Nat) (L : List Arc) (c a : Int) : List It := (runQ L c a m).2
theorem run_eq (n : Nat) : (runQ L c a n).2 = (settled m L c a).take n := by
  unfold settled
  rcases Nat.le_total n m with h | h
  · obtain ⟨k, rfl⟩ : ∃ k, m = n + k := ⟨m - n, by omega⟩
    exact run_take c n k
  · obtain ⟨k, rfl⟩ : ∃ k, n = m + k := ⟨n - m, by omega⟩
    rw [List.take_of_length_le (by have := (run_inv hL c ha ha' m).len; omega)]
    have hd := run_done hL c ha ha' (Nat.le_refl m)
    clear h
    induction k with
    | zero => rfl
    | succ k ih =>
      show (stepQ L c (runQ L c a (m + k))).2 = _
      have hk := run_done hL c ha ha' (n := m + k) (by omega)
      cases hz : runQ L c a (m + k) with
      | mk q s => rw [hz] at ih hk; simp only at hk; subst hk; exact ih
/-- What is settled is just what can be come to, and how far it is. -/
theorem settled_dist {v d : Int} : (⟨v, d⟩ : It) ∈ settled m L c a ↔ Walk L c a v d ∧ ∀ d', Walk L c a v d' → d ≤ d' := by
  have hi := run_inv hL c ha ha' m
  have hd := run_done hL c ha ha' (Nat.le_refl m)
  rw [hd] at hi
  constructor
  · intro h
    exact ⟨hi.walk _ (List.mem_append.2 (.inl h)), hi.low _ h⟩
  · rintro ⟨h1, h2⟩
    rcases hi.reach hL h1 with ⟨x, hx, rfl, hk⟩ | ⟨y, hy, _⟩
    · have := hi.walk x (by simpa using hx)
      have := h2 _ this
      have : (⟨x.id, d⟩ : It) = x := by obtain ⟨i, k⟩ := x; simp only at *; congr 1; omega
      rw [this]; exact hx
    · cases hy
theorem settled_reach {v d : Int} (h : Walk L c a v d) : ∃ k, k ≤ d ∧ (⟨v, k⟩ : It) ∈ settled m L c a := by
  have hi := run_inv hL c ha ha' m
  have hd := run_done hL c ha ha' (Nat.le_refl m)
  rw [hd] at hi
  rcases hi.reach hL h with ⟨x, hx, rfl, hk⟩ | ⟨y, hy, _⟩
  · exact ⟨x.key, hk, hx⟩
  · cases hy
theorem settled_one {x y : It} (hx : x ∈ settled m L c a) (hy : y ∈ settled m L c a) (e : x.id = y.id) : x = y := by
  have h1 := (settled_dist hL c ha ha' (v := x.id) (d := x.key)).1 hx
  have h2 := (settled_dist hL c ha ha' (v := y.id) (d := y.key)).1 hy
  obtain ⟨i, k⟩ := x
  obtain ⟨j, l⟩ := y
  simp only at e h1 h2
  subst e
  have := h1.2 _ h2.1
  have := h2.2 _ h1.1
  congr 1; omega
theorem settled_len : (settled m L c a).length ≤ m := (run_inv hL c ha ha' m).len
theorem settled_bnd {x : It} (hx : x ∈ settled m L c a) : 0 ≤ x.key ∧ x.key ≤ m * 1099511627776 ∧ 0 ≤ x.id ∧ x.id < m := by
  have hi := run_inv hL c ha ha' m
  have h1 := hi.bnd x (by simp only [List.mem_append]; exact .inl hx)
  have h2 := hi.len
  refine ⟨h1.1, ?_, h1.2.2⟩
  have : ((runQ L c a m).2.length : Int) * 1099511627776 ≤ (m : Int) * 1099511627776 := by omega
  omega
end
end Go.Den
