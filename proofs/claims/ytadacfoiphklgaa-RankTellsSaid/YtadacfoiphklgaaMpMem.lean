/-
  A store of rules for the denotation: what a statement asks of the world, and how it is met. Memory as rows; what is kept.
-/
import Derived.Test.YtadacfoiphklgaaMpDenS
import Derived.Laws.AppendOwn
import Derived.Laws.OwnMore
import Derived.Laws.CopyRow
import Derived.Below
import Derived.Lib.SmallJoins
namespace Go.Den
open Go

/-! ### What is kept -/

/-- Of the old blocks only those of 'F' may have turned. -/
structure Mod (F : Nat → Prop) (w w' : World) : Prop where
  os : w'.os = w.os
  tape : w'.tape = w.tape
  output : w'.output = w.output
  size : w.heap.size ≤ w'.heap.size
  block : ∀ k, k < w.heap.size → ¬ F k → w'.heap[k]? = w.heap[k]?
abbrev Keep (w w' : World) : Prop := Mod (fun _ => False) w w'

theorem Mod.refl (F : Nat → Prop) (w : World) : Mod F w w := ⟨rfl, rfl, rfl, Nat.le_refl _, fun _ _ _ => rfl⟩
theorem Mod.mono {F G : Nat → Prop} {w w' : World} (h : Mod F w w') (hs : ∀ k, k < w.heap.size → F k → G k) : Mod G w w' :=
  ⟨h.os, h.tape, h.output, h.size, fun k hk hn => h.block k hk fun hf => hn (hs k hk hf)⟩
theorem Mod.trans {F G : Nat → Prop} {a b c : World} (h : Mod F a b) (h' : Mod G b c) (hs : ∀ k, k < a.heap.size → G k → F k) : Mod F a c :=
  ⟨h'.os.trans h.os, h'.tape.trans h.tape, h'.output.trans h.output, Nat.le_trans h.size h'.size,
    fun k hk hn => (h'.block k (Nat.lt_of_lt_of_le hk h.size) fun hg => hn (hs k hk hg)).trans (h.block k hk hn)⟩
theorem Mod.tr {F : Nat → Prop} {a b c : World} (h : Mod F a b) (h' : Mod F b c) : Mod F a c := h.trans h' fun _ _ h => h
theorem Keep.mod {F : Nat → Prop} {w w' : World} (h : Keep w w') : Mod F w w' := h.mono fun _ _ h => h.elim
theorem Mod.wk {F : Nat → Prop} {w w' : World} (h : Mod (fun _ => False) w w') : Mod F w w' := h.mono fun _ _ h => h.elim
theorem Mod.drew {F : Nat → Prop} {a w : World} (h : Mod F a w) : Mod F a w.drew := ⟨h.os, h.tape, h.output, h.size, h.block⟩
theorem Keep.alloc (w : World) (o : Obj) : Keep w (w.alloc o) := ⟨rfl, rfl, rfl, by simp, fun k hk _ => RowKit.Below.heap_alloc w o k hk⟩
theorem Mod.alloc {F : Nat → Prop} {a w : World} (h : Mod F a w) (o : Obj) : Mod F a (w.alloc o) := h.trans (Keep.alloc w o) fun _ _ h => h.elim
theorem Mod.setRow (w : World) (g : Nat) (cs : Array Value) : Mod (fun k => k = g) w (w.setRow g cs) := ⟨rfl, rfl, rfl, by simp, fun k _ hk => setRow_other w g k cs hk⟩
theorem Mod.setCell (w : World) (a : Addr) (u : Value) : Mod (fun k => k = a.block) w (w.setCell a u) :=
  ⟨rfl, rfl, rfl, by simp [World.setCell], fun k _ hk => heap_setCell_other w a k u hk⟩
/-- Only new blocks have turned. -/
theorem Mod.fresh {F G : Nat → Prop} {a w w' : World} (h : Mod F a w) (h' : Mod G w w') (hs : ∀ k, G k → a.heap.size ≤ k) : Mod F a w' :=
  h.trans h' fun k hk hg => absurd (hs k hg) (by omega)
theorem Mod.below {w w' : World} {B : Nat} (h : Mod (fun k => B ≤ k) w w') (hB : B ≤ w.heap.size) : RowKit.Below B w w' :=
  ⟨h.os, h.tape, h.output, h.size, fun k hk => h.block k (by omega) (by omega)⟩
theorem Keep.below {w w' : World} (h : Keep w w') : RowKit.Below w.heap.size w w' := ⟨h.os, h.tape, h.output, h.size, fun k hk => h.block k hk id⟩

theorem cell_lt {w : World} {a : Addr} {v : Value} (h : w.cell? a = some v) : a.block < w.heap.size := World.block_lt_of_cell? w a h
theorem Mod.cell {F : Nat → Prop} {w w' : World} (h : Mod F w w') {a : Addr} {v : Value} (hc : w.cell? a = some v) (hn : ¬ F a.block) : w'.cell? a = some v :=
  (World.cell?_of_block (h.block _ (cell_lt hc) hn)).trans hc

theorem add_add (a : Addr) (m n : Nat) : (a.add m).add n = a.add (m + n) := by
  unfold Addr.add
  by_cases hm : m = 0 <;> by_cases hn : n = 0 <;> simp [hm, hn, Nat.add_assoc]
@[simp] theorem add_block (a : Addr) (n : Nat) : (a.add n).block = a.block := by unfold Addr.add; split <;> rfl
theorem add_zero (a : Addr) : a.add 0 = a := by simp [Addr.add]

theorem holds_keep {w w' : World} {a : Addr} (hb : w'.heap[a.block]? = w.heap[a.block]?) : ∀ {vs : List Value} {i : Nat}, HoldsAt w a i vs → HoldsAt w' a i vs
  | [], _, _ => trivial
  | _ :: _, _, h => ⟨(World.cell?_of_block (w := w) (by simpa using hb)).trans h.1, holds_keep hb h.2⟩
theorem holds_shift {w : World} {a : Addr} {m : Nat} : ∀ {vs : List Value} {i : Nat}, HoldsAt w (a.add m) i vs ↔ HoldsAt w a (m + i) vs
  | [], _ => Iff.rfl
  | _ :: _, i => by simp only [HoldsAt, add_add]; rw [holds_shift]; rfl
theorem holds_iff {w : World} {a : Addr} : ∀ {vs : List Value} {i : Nat}, HoldsAt w a i vs ↔ ∀ j v, vs[j]? = some v → w.cell? (a.add (i + j)) = some v
  | [], i => by simp [HoldsAt]
  | v :: r, i => by
    simp only [HoldsAt]
    rw [holds_iff (vs := r) (i := i + 1)]
    constructor
    · rintro ⟨h1, h2⟩ j u hu
      cases j with
      | zero => simp only [List.getElem?_cons_zero, Option.some.injEq] at hu; subst hu; exact h1
      | succ j => simp only [List.getElem?_cons_succ] at hu; have := h2 j u hu; rwa [show i + 1 + j = i + (j + 1) by omega] at this
    · intro h
      exact ⟨h 0 v rfl, fun j u hu => by have := h (j + 1) u hu; rwa [show i + (j + 1) = i + 1 + j by omega] at this⟩

/-! ### Slices that are read -/

/-- The slice's places hold these, each in 'n' cells. -/
structure Rd {α : Type} (w : World) (s : Sl) (n : Nat) (enc : α → List Value) (xs : List α) : Prop where
  len : s.l = xs.length
  cap : s.l ≤ s.c
  get : ∀ i x, xs[i]? = some x → ∃ a, s.b = some a ∧ HoldsAt w (a.add (i * n)) 0 (enc x)

theorem Rd.nil {α : Type} (w : World) (n : Nat) (enc : α → List Value) : Rd w ⟨none, 0, 0⟩ n enc [] := ⟨rfl, Nat.le_refl _, fun i x h => by simp at h⟩
theorem Rd.keep {α : Type} {w w' : World} {s : Sl} {n : Nat} {enc : α → List Value} {xs : List α} (h : Rd w s n enc xs) (hb : ∀ a, s.b = some a → w'.heap[a.block]? = w.heap[a.block]?) : Rd w' s n enc xs :=
  ⟨h.len, h.cap, fun i x hx => by obtain ⟨a, ha, hh⟩ := h.get i x hx; exact ⟨a, ha, holds_keep (by simpa using hb a ha) hh⟩⟩
theorem Rd.mod {α : Type} {F : Nat → Prop} {w w' : World} {s : Sl} {n : Nat} {enc : α → List Value} {xs : List α} (h : Rd w s n enc xs) (hm : Mod F w w') (hne : ∀ x, enc x ≠ [])
    (hF : ∀ a, s.b = some a → ¬ F a.block) : Rd w' s n enc xs :=
  ⟨h.len, h.cap, fun i x hx => by
    obtain ⟨a, ha, hh⟩ := h.get i x hx
    have hlt : a.block < w.heap.size := by
      cases he : enc x with
      | nil => exact absurd he (hne x)
      | cons v r => rw [he] at hh; have := cell_lt hh.1; simpa using this
    exact ⟨a, ha, holds_keep (by simpa using hm.block _ hlt (hF a ha)) hh⟩⟩
/-- What was there at first stays, whatever new blocks do. -/
theorem Rd.later {α : Type} {w w' : World} {s : Sl} {n : Nat} {enc : α → List Value} {xs : List α} (h : Rd w s n enc xs) (hm : Mod (fun k => w.heap.size ≤ k) w w') (hne : ∀ x, enc x ≠ []) : Rd w' s n enc xs :=
  ⟨h.len, h.cap, fun i x hx => by
    obtain ⟨a, ha, hh⟩ := h.get i x hx
    have hlt : a.block < w.heap.size := by
      cases he : enc x with
      | nil => exact absurd he (hne x)
      | cons v r => rw [he] at hh; have := cell_lt hh.1; simpa using this
    exact ⟨a, ha, holds_keep (by simpa using hm.block _ hlt (by omega)) hh⟩⟩
/-- A part of it. -/
theorem Rd.part {α : Type} {w : World} {s : Sl} {n : Nat} {enc : α → List Value} {xs : List α} (h : Rd w s n enc xs) {i j c : Nat} (hij : i ≤ j) (hj : j ≤ s.l) (hc : j ≤ c) (_ : c ≤ s.c) :
    Rd w ⟨sliceAddr s.b s.c i n, j - i, c - i⟩ n enc ((xs.drop i).take (j - i)) := by
  refine ⟨?_, ?_, fun k x hk => ?_⟩
  · have := h.len; simp only [List.length_take, List.length_drop]; omega
  · show j - i ≤ c - i; omega
  · have hlt : k < j - i := by
      have := (List.getElem?_eq_some_iff.1 hk).1; simp at this; omega
    rw [List.getElem?_take_of_lt hlt, List.getElem?_drop] at hk
    obtain ⟨a, ha, hh⟩ := h.get (i + k) x hk
    refine ⟨a.add (i * n), ?_, ?_⟩
    · show sliceAddr s.b s.c i n = _
      have : s.c ≠ i := by have := h.cap; omega
      simp [sliceAddr, this, ha]
    · rw [add_add, ← Nat.add_mul]; exact hh

/-- What a block holds, read from its beginning. -/
theorem rd_row {α : Type} {w : World} {g : Nat} {cs : Array Value} {e : TypeId} {fr : Nat × Nat} (h : w.heap[g]? = some (.cells cs e fr)) {n c : Nat} {enc : α → List Value} {xs : List α} (hc : xs.length ≤ c)
    (hx : ∀ i x, xs[i]? = some x → ∀ j v, (enc x)[j]? = some v → cs[i * n + j]? = some v) : Rd w ⟨some ⟨g, 0, none⟩, xs.length, c⟩ n enc xs := by
  refine ⟨rfl, hc, fun i x hi => ⟨_, rfl, ?_⟩⟩
  rw [holds_iff]
  intro j v hj
  rw [add_add, show (⟨g, 0, none⟩ : Addr).add (i * n + (0 + j)) = ⟨g, i * n + j, none⟩ by unfold Addr.add; split <;> simp_all, cell_of_row _ _ _ cs e fr h]
  exact hx i x hi j v hj
/-- .. of one cell each. -/
theorem rd_row1 {α : Type} {w : World} {g : Nat} {cs : Array Value} {e : TypeId} {fr : Nat × Nat} (h : w.heap[g]? = some (.cells cs e fr)) {c : Nat} {enc : α → Value} {xs : List α} (hc : xs.length ≤ c)
    (hx : cs.toList = xs.map enc) : Rd w ⟨some ⟨g, 0, none⟩, xs.length, c⟩ 1 (fun x => [enc x]) xs :=
  rd_row h hc fun i x hi j v hj => by
    have hj0 : j = 0 := by have := (List.getElem?_eq_some_iff.1 hj).1; simp at this; exact this
    subst hj0
    simp at hj
    subst hj
    have : cs.toList[i]? = some (enc x) := by rw [hx, List.getElem?_map, hi]; rfl
    simpa using this

/-! ### Rules -/

theorem cond_i {b : Bool} {A B : Prop} (h1 : b = true → A) (h2 : b = false → B) : cond b A B := by cases b <;> simp_all
theorem cond_d {p : Prop} [Decidable p] {A B : Prop} (h1 : p → A) (h2 : ¬ p → B) : cond (decide p) A B := by by_cases h : p <;> simp_all
theorem onSome_i {p : Option Addr} {K : Addr → Prop} {a : Addr} (h : p = some a) (hK : K a) : onSome p K := by subst h; exact hK
theorem ld1_i {k : CK} {w : World} {a : Addr} {K : k.T → Prop} (x : k.T) (h : w.cell? a = some (k.enc x)) (hK : K x) : ld1 k w a K := ⟨x, h, hK⟩
theorem ldN_i {l : List CK} {w : World} {a : Addr} {K : CTs l → Prop} (x : CTs l) (h : HoldsAt w a 0 (encs l x)) (hK : K x) : ldN l w a K := ⟨x, h, hK⟩

/-- A loop, by what stands at its head and a measure. -/
theorem loop_i {S : Type} {body : (S → World → Prop) → S → World → Prop} (I : Nat → S → World → Prop) (n : Nat) {t : S} {w : World} (h0 : I n t w)
    (step : ∀ n t w, I n t w → ∀ X : S → World → Prop, (∀ m t' w', m < n → I m t' w' → X t' w') → body X t w) :
    ∀ X : S → World → Prop, (∀ t w, body X t w → X t w) → X t w := by
  intro X hX
  induction n using Nat.strongRecOn generalizing t w with
  | ind n ih => exact hX t w (step n t w h0 X fun m t' w' hm h => ih m hm h)

theorem w64 {n : Int} (h0 : -9223372036854775808 ≤ n) (h1 : n ≤ 9223372036854775807) : IntKind.wrap .i64 n = n := by rw [IntKind.wrap_i64]; omega

theorem alloc_new (w : World) (o : Obj) : (w.alloc o).heap[w.heap.size]? = some o := heap_alloc_new w o

/-- What was laid in a new block is read there. -/
theorem holds_alloc (w : World) (cs : Array Value) (t : TypeId) : HoldsAt (w.alloc (.cells cs t)) ⟨w.heap.size, 0, none⟩ 0 cs.toList := by
  rw [holds_iff]
  intro j v hv
  have : (⟨w.heap.size, 0, none⟩ : Addr).add (0 + j) = ⟨w.heap.size, j, none⟩ := by unfold Addr.add; split <;> simp_all
  rw [this, cell_of_row _ _ _ cs t (0, 0) (heap_alloc_new w _)]
  simpa using hv

/-! ### Blocks of one's own -/

theorem w64n (n : Nat) (h : n ≤ 9223372036854775807) : IntKind.wrap .i64 (n : Int) = (n : Int) := w64 (by omega) (by omega)
theorem addr_lit (g o n : Nat) : (⟨g, o, none⟩ : Addr).add n = ⟨g, o + n, none⟩ := by unfold Addr.add; split <;> simp_all

/-- A block that may be written: what it holds. -/
def Own (w : World) (g : Nat) (e : TypeId) (cs : List Value) : Prop := w.heap[g]? = some (.cells cs.toArray e (0, 0))

theorem Own.lt {w : World} {g : Nat} {e : TypeId} {cs : List Value} (h : Own w g e cs) : g < w.heap.size := (Array.getElem?_eq_some_iff.1 h).1
theorem Own.mod {F : Nat → Prop} {w w' : World} {g : Nat} {e : TypeId} {cs : List Value} (h : Own w g e cs) (hm : Mod F w w') (hF : ¬ F g) : Own w' g e cs := (hm.block g h.lt hF).trans h
theorem Own.cell {w : World} {g : Nat} {e : TypeId} {cs : List Value} (h : Own w g e cs) (j : Nat) : w.cell? ⟨g, j, none⟩ = cs[j]? := by
  rw [cell_of_row w g j _ e (0, 0) h]; simp
theorem Own.holds {w : World} {g : Nat} {e : TypeId} {cs : List Value} (h : Own w g e cs) {o : Nat} {vs : List Value} (hv : ∀ j v, vs[j]? = some v → cs[o + j]? = some v) : HoldsAt w ⟨g, o, none⟩ 0 vs := by
  rw [holds_iff]
  intro j v hj
  rw [addr_lit, Nat.zero_add, h.cell]
  exact hv j v hj
theorem Own.alloc (w : World) (cs : List Value) (e : TypeId) : Own (w.alloc (.cells cs.toArray e)) w.heap.size e cs := heap_alloc_new w _
theorem Own.alloc' (w : World) (cs : Array Value) (e : TypeId) : Own (w.alloc (.cells cs e)) w.heap.size e cs.toList := heap_alloc_new w _
theorem Own.setRow {w : World} {g : Nat} {e : TypeId} {cs : List Value} (h : Own w g e cs) (ds : List Value) : Own (w.setRow g ds.toArray) g e ds := setRow_heap w g _ _ e _ h

theorem storeD_i {P : Program} {t : TypeId} {g o : Nat} {v : Value} {w : World} {K : World → Prop} {e : TypeId} {cs : List Value} (h : Own w g e cs)
    (hi : (P.info? t).map (·.size) = some v.cells.size) (hfit : o + v.cells.size ≤ cs.length) (h1 : ∀ u ∈ v.cells.toList, u.oneCell' = true)
    (hK : ∀ w', Own w' g e (cs.take o ++ v.cells.toList ++ cs.drop (o + v.cells.size)) → Mod (fun k => k = g) w w' → w'.heap.size = w.heap.size → K w') : storeD P t ⟨g, o, none⟩ v w K := by
  have hst := run_storeCells_at P g o e v.cells.toList 0 cs.toArray w h (by simpa using hfit) h1
  cases hq : P.info? t with
  | none => simp [hq] at hi
  | some i =>
    have hs : v.cells.size = i.size := by simp [hq] at hi; omega
    refine ⟨_, ?_, hK _ (h.setRow _) (Mod.setRow w g _) (by simp)⟩
    simp [storeVar, sizeOf, typeInfo, hq, hs, hst]

theorem set_eq_splice {α : Type} (l : List α) (o : Nat) (v : α) (h : o < l.length) : l.take o ++ [v] ++ l.drop (o + 1) = l.set o v := by
  rw [List.set_eq_take_append_cons_drop, if_pos h]; simp

theorem storeD1_i {P : Program} {t : TypeId} {g o : Nat} {v : Value} {w : World} {K : World → Prop} {e : TypeId} {cs : List Value} (h : Own w g e cs)
    (hi : (P.info? t).map (·.size) = some 1) (hfit : o < cs.length) (hc : v.cells = #[v]) (h1 : v.oneCell' = true)
    (hK : ∀ w', Own w' g e (cs.set o v) → Mod (fun k => k = g) w w' → w'.heap.size = w.heap.size → K w') : storeD P t ⟨g, o, none⟩ v w K := by
  refine storeD_i h (by rw [hi, hc]; rfl) (by rw [hc]; exact hfit) (by rw [hc]; simpa using h1) fun w' h2 h3 h4 => hK w' ?_ h3 h4
  rw [hc] at h2
  simpa [set_eq_splice _ _ _ hfit, ← List.append_assoc] using h2

/-! ### Slices of one's own -/

/-- A slice over a block of one's own, from its beginning. -/
structure Vec {α : Type} (w : World) (e : TypeId) (n : Nat) (enc : α → List Value) (s : Sl) (xs : List α) : Prop where
  len : s.l = xs.length
  cap : s.l ≤ s.c
  max : s.c ≤ maxLen
  own : (s.b = none ∧ s.c = 0) ∨ ∃ g rest, s.b = some ⟨g, 0, none⟩ ∧ Own w g e (xs.flatMap enc ++ rest) ∧ (xs.flatMap enc ++ rest).length = s.c * n

theorem length_flatMap_enc {α : Type} {enc : α → List Value} {n : Nat} (henc : ∀ x, (enc x).length = n) : ∀ xs : List α, (xs.flatMap enc).length = xs.length * n
  | [] => by simp
  | x :: r => by simp only [List.flatMap_cons, List.length_append, henc, List.length_cons, length_flatMap_enc henc r]; rw [Nat.add_mul]; omega
theorem get_flatMap_enc {α : Type} {enc : α → List Value} {n : Nat} (henc : ∀ x, (enc x).length = n) : ∀ (xs : List α) (i : Nat) (x : α) (j : Nat) (v : Value) (rest : List Value), xs[i]? = some x → (enc x)[j]? = some v → (xs.flatMap enc ++ rest)[i * n + j]? = some v
  | [], i, x, j, v, rest, h, _ => by simp at h
  | y :: r, 0, x, j, v, rest, h, hv => by
    simp at h; subst h
    have : j < (enc y).length := (List.getElem?_eq_some_iff.1 hv).1
    simp only [List.flatMap_cons, Nat.zero_mul, Nat.zero_add, List.append_assoc]
    rw [List.getElem?_append_left this]; exact hv
  | y :: r, i + 1, x, j, v, rest, h, hv => by
    simp only [List.getElem?_cons_succ] at h
    simp only [List.flatMap_cons, List.append_assoc]
    rw [List.getElem?_append_right (by rw [henc, Nat.add_mul]; omega), henc, show (i + 1) * n + j - n = i * n + j by rw [Nat.add_mul]; omega]
    exact get_flatMap_enc henc r i x j v rest h hv

theorem Vec.nil {α : Type} (w : World) (e : TypeId) (n : Nat) (enc : α → List Value) : Vec w e n enc ⟨none, 0, 0⟩ [] := ⟨rfl, Nat.le_refl _, Nat.zero_le _, .inl ⟨rfl, rfl⟩⟩
theorem Vec.rd {α : Type} {w : World} {e : TypeId} {n : Nat} {enc : α → List Value} {s : Sl} {xs : List α} (h : Vec w e n enc s xs) (henc : ∀ x, (enc x).length = n) : Rd w s n enc xs := by
  refine ⟨h.len, h.cap, fun i x hx => ?_⟩
  have hlt : i < xs.length := (List.getElem?_eq_some_iff.1 hx).1
  rcases h.own with ⟨_, h2⟩ | ⟨g, rest, hb, ho, hl⟩
  · have := h.len; have := h.cap; omega
  · refine ⟨_, hb, ?_⟩
    rw [addr_lit]
    exact ho.holds fun j v hv => by rw [Nat.zero_add]; exact get_flatMap_enc henc xs i x j v rest hx hv
theorem Vec.mod {α : Type} {F : Nat → Prop} {w w' : World} {e : TypeId} {n : Nat} {enc : α → List Value} {s : Sl} {xs : List α} (h : Vec w e n enc s xs) (hm : Mod F w w') (hF : ∀ a, s.b = some a → ¬ F a.block) : Vec w' e n enc s xs :=
  ⟨h.len, h.cap, h.max, h.own.imp id fun ⟨g, rest, hb, ho, hl⟩ => ⟨g, rest, hb, ho.mod hm (hF _ hb), hl⟩⟩
theorem Vec.lt {α : Type} {w : World} {e : TypeId} {n : Nat} {enc : α → List Value} {s : Sl} {xs : List α} (h : Vec w e n enc s xs) {a : Addr} (ha : s.b = some a) : a.block < w.heap.size := by
  rcases h.own with ⟨h1, _⟩ | ⟨g, rest, hb, ho, hl⟩
  · rw [h1] at ha; cases ha
  · rw [hb] at ha; cases ha; exact ho.lt
/-- A literal of a slice. -/
theorem Vec.lit {α : Type} (w : World) (e : TypeId) {n : Nat} (enc : α → List Value) (henc : ∀ x, (enc x).length = n) (xs : List α) (cs : Array Value) (hc : cs.toList = xs.flatMap enc) (hm : xs.length ≤ maxLen) :
    Vec (w.alloc (.cells cs e)) e n enc ⟨some ⟨w.heap.size, 0, none⟩, xs.length, xs.length⟩ xs :=
  ⟨rfl, Nat.le_refl _, hm, .inr ⟨_, [], rfl, by rw [List.append_nil, ← hc]; exact Own.alloc' w cs e, by rw [List.append_nil]; exact length_flatMap_enc henc xs⟩⟩
/-- Its beginning. -/
theorem Vec.take {α : Type} {w : World} {e : TypeId} {n : Nat} {enc : α → List Value} {s : Sl} {xs : List α} (h : Vec w e n enc s xs) {i : Nat} (hi : i ≤ s.l) : Vec w e n enc ⟨s.b, i, s.c⟩ (xs.take i) := by
  refine ⟨by have := h.len; simp only [List.length_take]; omega, Nat.le_trans hi h.cap, h.max, h.own.imp id fun ⟨g, rest, hb, ho, hl⟩ => ⟨g, (xs.drop i).flatMap enc ++ rest, hb, ?_, ?_⟩⟩
  all_goals rw [← List.append_assoc, ← List.flatMap_append, List.take_append_drop]; assumption

theorem flatMap_set {α : Type} {enc : α → List Value} {n : Nat} (henc : ∀ x, (enc x).length = n) (rest : List Value) (x : α) : ∀ (xs : List α) (i : Nat), i < xs.length →
    (xs.flatMap enc ++ rest).take (i * n) ++ enc x ++ (xs.flatMap enc ++ rest).drop (i * n + n) = (xs.set i x).flatMap enc ++ rest
  | y :: r, 0, _ => by
    have : (enc y).length = n := henc y
    simp only [Nat.zero_mul, List.take_zero, List.nil_append, List.set_cons_zero, List.flatMap_cons, List.append_assoc, Nat.zero_add]
    rw [← this, List.drop_left]
  | y :: r, i + 1, h => by
    have hl : (enc y).length = n := henc y
    have ih := flatMap_set henc rest x r i (by simpa using h)
    simp only [List.set_cons_succ, List.flatMap_cons, List.append_assoc] at ih ⊢
    rw [← ih, show (i + 1) * n = (enc y).length + i * n by rw [Nat.add_mul, hl]; omega, List.take_length_add_append, show (enc y).length + i * n + n = (enc y).length + (i * n + n) by omega, List.drop_length_add_append, List.append_assoc]
/-- One place is written. -/
theorem Vec.store {α : Type} {P : Program} {t : TypeId} {w : World} {e : TypeId} {n : Nat} {enc : α → List Value} {s : Sl} {xs : List α} (h : Vec w e n enc s xs) (henc : ∀ x, (enc x).length = n) {a : Addr} (ha : s.b = some a)
    {i : Nat} (hi : i < xs.length) (x : α) {v : Value} (hv : v.cells.toList = enc x) (ht : (P.info? t).map (·.size) = some n) (hone : ∀ u ∈ enc x, u.oneCell' = true) {K : World → Prop}
    (hK : ∀ w', Vec w' e n enc s (xs.set i x) → Mod (fun k => k = a.block) w w' → w'.heap.size = w.heap.size → K w') : storeD P t (a.add (i * n)) v w K := by
  rcases h.own with ⟨h1, _⟩ | ⟨g, rest, hb, ho, hl⟩
  · rw [h1] at ha; cases ha
  · rw [hb] at ha; cases ha
    rw [addr_lit, Nat.zero_add]
    have hvs : v.cells.size = n := by rw [← henc x, ← hv, Array.length_toList]
    have hfl := length_flatMap_enc henc xs
    have hin : i * n + n ≤ xs.length * n := by have := Nat.mul_le_mul_right n (show i + 1 ≤ xs.length from hi); rwa [Nat.add_mul, Nat.one_mul] at this
    refine storeD_i ho (by rw [ht, hvs]) (by rw [hvs, List.length_append, hfl]; omega) (by rw [hv]; exact hone) fun w' h2 h3 h4 => hK w' ⟨by rw [List.length_set]; exact h.len, h.cap, h.max, .inr ⟨g, rest, hb, ?_, ?_⟩⟩ h3 h4
    · rw [hv, hvs, flatMap_set henc rest x xs i hi] at h2; exact h2
    · rw [← hl, List.length_append, List.length_append, length_flatMap_enc henc, length_flatMap_enc henc, List.length_set]

/-- What is known of a slice's type. -/
structure Elem (P : Program) (t e : TypeId) (n bytes : Nat) (z : List Value) : Prop where
  under : P.underlying t = some (.slice e)
  facts : (P.info? e).map (fun i => (i.zero.map fun v => v.cells.toList, i.size, i.bytes)) = some (some z, n, bytes)
  pos : 0 < n
  zlen : z.length = n
theorem Elem.info {P : Program} {t e : TypeId} {n bytes : Nat} {z : List Value} (h : Elem P t e n bytes z) : ∃ i zv, P.info? e = some i ∧ i.zero = some zv ∧ zv.cells.toList = z ∧ i.size = n ∧ i.bytes = bytes := by
  have hm := h.facts
  cases hi : P.info? e with
  | none => simp [hi] at hm
  | some i =>
    cases hz : i.zero with
    | none => simp [hi, hz] at hm
    | some zv => simp [hi, hz] at hm; exact ⟨i, zv, rfl, hz, hm.1, hm.2.1, hm.2.2⟩

theorem firstCells_rd {α : Type} {w : World} {x : Sl} {n : Nat} {enc : α → List Value} {ys : List α} (hx : Rd w x n enc ys) (henc : ∀ x, (enc x).length = n) {a : Addr} (ha : x.b = some a) :
    ∀ j u, (ys.flatMap enc)[j]? = some u → w.cell? (a.add j) = some u := by
  intro j u hu
  have hlt : j < ys.length * n := by have := (List.getElem?_eq_some_iff.1 hu).1; rwa [length_flatMap_enc henc] at this
  have hn : 0 < n := by rcases Nat.eq_zero_or_pos n with h | h; · subst h; omega
                        · exact h
  have hi : j / n < ys.length := Nat.div_lt_of_lt_mul (by rwa [Nat.mul_comm])
  have hm : j % n < n := Nat.mod_lt _ hn
  obtain ⟨a', ha', hh⟩ := hx.get (j / n) ys[j / n] (List.getElem?_eq_getElem hi)
  rw [ha] at ha'; cases ha'
  have hlt2 : j % n < (enc ys[j / n]).length := by rw [henc]; exact hm
  have h2 := get_flatMap_enc henc ys (j / n) _ (j % n) _ [] (List.getElem?_eq_getElem hi) (List.getElem?_eq_getElem hlt2)
  rw [List.append_nil, Nat.div_add_mod', hu] at h2
  cases h2
  have := (holds_iff.1 hh) (j % n) _ (List.getElem?_eq_getElem hlt2)
  rwa [add_add, Nat.zero_add, Nat.div_add_mod'] at this

theorem append_j {α : Type} {P : Program} {t e : TypeId} {n bytes : Nat} {z : List Value} (hE : Elem P t e n bytes z) {enc : α → List Value} (henc : ∀ x, (enc x).length = n) (hone : ∀ x, ∀ u ∈ enc x, u.oneCell' = true)
    {w : World} {s x : Sl} {xs ys : List α} (hs : Vec w e n enc s xs) (hx : Rd w x n enc ys) (h63 : xs.length + ys.length ≤ 9223372036854775807) (hbytes : (xs.length + ys.length) * bytes ≤ 140737488355328) {K : Sl → World → Prop}
    (hK : ∀ r w', Vec w' e n enc r (xs ++ ys) → Mod (fun k => ∃ a, s.b = some a ∧ k = a.block) w w' → (r.b = s.b ∨ ∃ a, r.b = some a ∧ w.heap.size ≤ a.block) → (r.b = none → s.b = none) → (xs.length + ys.length ≤ s.c → r = ⟨s.b, s.l + x.l, s.c⟩) → K r w') :
    appendD P t t s (.slice x.b x.l x.c) w K := by
  obtain ⟨i, zv, hi, hz, rfl, rfl, rfl⟩ := hE.info
  have ht := hE.under
  obtain ⟨sb, sl, sc⟩ := s
  obtain ⟨xb, xl, xc⟩ := x
  have hsl : sl = xs.length := hs.len
  have hxl : xl = ys.length := hx.len
  have hscap : sl ≤ sc := hs.cap
  by_cases hy : ys = []
  · subst hy
    have hxl0 : xl = 0 := hxl
    subst hxl0
    refine ⟨⟨sb, sl, sc⟩, w, ?_, hK _ _ (by rw [List.append_nil]; exact hs) (Mod.refl _ _) (.inl rfl) id (fun _ => rfl)⟩
    cases xb <;> cases sb <;> simp [Builtin.append_, run_underlying ht, sizeOf, typeInfo, hi, Builtin.lenOf, Builtin.firstCells, hscap, storeCells, loadCells, loadCellsFrom, Knd.enc, CK.enc]
  have hpos : 0 < ys.length := List.length_pos_iff.2 hy
  obtain ⟨ax, hax, _⟩ := hx.get 0 ys[0] (List.getElem?_eq_getElem hpos)
  have hax' : xb = some ax := hax
  subst hax'
  have hnews := firstCells_rd hx henc (a := ax) rfl
  have hl : (ys.flatMap enc).length = xl * i.size := by rw [length_flatMap_enc henc, hxl]
  have hone' : ∀ u ∈ ys.flatMap enc, u.oneCell' = true := fun u hu => by obtain ⟨y, _, hy⟩ := List.mem_flatMap.1 hu; exact hone y u hy
  have hzs : zv.cells.size = i.size := by have := hE.zlen; simpa using this
  have hm63 : xs.length + ys.length ≤ maxLen := by simp only [maxLen]; omega
  -- a new block
  have grown : ∀ old, old < sl + xl → Vec (w.drew.alloc (.cells ((xs.flatMap enc).toArray ++ (ys.flatMap enc).toArray ++ Builtin.zeroCells zv.cells (grownCap w (sl + xl) old e - (sl + xl))) e)) e i.size enc
      ⟨some ⟨w.heap.size, 0, none⟩, sl + xl, grownCap w (sl + xl) old e⟩ (xs ++ ys) := fun old hold => by
    have hge := grownCap_ge w (sl + xl) old e
    have hcm : grownCap w (sl + xl) old e ≤ maxLen := grownCap_le_maxLen w (sl + xl) old e (by omega)
    refine ⟨by simp [hsl, hxl], hge, hcm, .inr ⟨w.heap.size, (Builtin.zeroCells zv.cells (grownCap w (sl + xl) old e - (sl + xl))).toList, rfl, ?_, ?_⟩⟩
    · have := Own.alloc' w.drew ((xs.flatMap enc).toArray ++ (ys.flatMap enc).toArray ++ Builtin.zeroCells zv.cells (grownCap w (sl + xl) old e - (sl + xl))) e
      simpa [List.append_assoc] using this
    · simp only [List.length_append, length_flatMap_enc henc, Array.length_toList, size_zeroCells, hzs, ← hsl, ← hxl]
      rw [← Nat.add_mul]
      congr 1
      show sl + xl + (grownCap w (sl + xl) old e - (sl + xl)) = grownCap w (sl + xl) old e
      omega
  rcases hs.own with ⟨hb, hc⟩ | ⟨g, rest, hb, ho, hlen⟩
  · have hb' : sb = none := hb
    have hc' : sc = 0 := hc
    subst hb'; subst hc'
    have hsl0 : sl = 0 := by omega
    have hxs : xs = [] := List.eq_nil_of_length_eq_zero (by omega)
    subst hxs
    have hr := run_append_nil (P := P) w t 0 e i zv ht hi hz ax xl xc (ys.flatMap enc) hl hnews (by omega) (by omega) (by simp at hbytes; rw [hxl]; omega)
    have hg := grown 0 (by omega)
    subst hsl0
    refine ⟨(⟨some ⟨w.heap.size, 0, none⟩, xl, grownCap w xl 0 e⟩ : Sl), _, hr, ?_⟩
    simp only [Nat.zero_add, List.flatMap_nil] at hg
    have hg' : Vec (w.drew.alloc (.cells ((ys.flatMap enc).toArray ++ Builtin.zeroCells zv.cells (grownCap w xl 0 e - xl)) e)) e i.size enc ⟨some ⟨w.heap.size, 0, none⟩, xl, grownCap w xl 0 e⟩ ([] ++ ys) := by simpa using hg
    exact hK _ _ hg' ((Mod.refl _ w).drew.alloc _) (.inr ⟨_, rfl, Nat.le_refl _⟩) (fun h => by cases h) (fun h => absurd h (by show ¬ (0 + ys.length ≤ 0); omega))
  · have hb' : sb = some ⟨g, 0, none⟩ := hb
    subst hb'
    by_cases hroom : sl + xl ≤ sc
    · have htake : ((xs.flatMap enc ++ rest).take (sl * i.size)) = xs.flatMap enc := by
        have : (xs.flatMap enc).length = sl * i.size := by rw [length_flatMap_enc henc, hsl]
        rw [← this]; exact List.take_left
      have hlen' : (xs.flatMap enc ++ rest).length = sc * i.size := hlen
      have hfit : sl * i.size + (ys.flatMap enc).length ≤ (xs.flatMap enc ++ rest).toArray.size := by
        rw [hl, ← Nat.add_mul, List.size_toArray, hlen']; exact Nat.mul_le_mul_right _ hroom
      have hr := run_append_room (P := P) w t 0 e i ht hi g sl sc (xs.flatMap enc ++ rest).toArray ho ax xl xc (ys.flatMap enc) hl hnews hone' hroom hfit
      simp only [htake] at hr
      refine ⟨(⟨some ⟨g, 0, none⟩, sl + xl, sc⟩ : Sl), _, hr, hK ⟨some ⟨g, 0, none⟩, sl + xl, sc⟩ _ ⟨by simp [hsl, hxl], hroom, hs.max, .inr ⟨g, (xs.flatMap enc ++ rest).drop (sl * i.size + (ys.flatMap enc).length), rfl, ?_, ?_⟩⟩ ?_ (.inl rfl) (fun h => by cases h) (fun _ => rfl)⟩
      · have := Own.setRow ho (xs.flatMap enc ++ ys.flatMap enc ++ (xs.flatMap enc ++ rest).drop (sl * i.size + (ys.flatMap enc).length))
        simpa [List.flatMap_append] using this
      · simp only [List.size_toArray] at hfit
        rw [List.flatMap_append, List.length_append, List.length_append, List.length_drop, length_flatMap_enc henc xs, ← hsl]
        show _ = sc * i.size
        omega
      · exact (Mod.setRow w g _).mono fun k _ hk => ⟨_, rfl, hk⟩
    · have holds : ∀ j u, (xs.flatMap enc)[j]? = some u → w.cell? ((⟨g, 0, none⟩ : Addr).add j) = some u := firstCells_rd (hs.rd henc) henc rfl
      have hr := run_append_grow (P := P) w t 0 e i zv ht hi hz ⟨g, 0, none⟩ sl sc (xs.flatMap enc) (by rw [length_flatMap_enc henc, hsl]) holds ax xl xc (ys.flatMap enc) hl hnews (by omega) (by omega) (growslice_fits (by omega) (by rw [hsl, hxl]; exact hbytes))
      exact ⟨(⟨some ⟨w.heap.size, 0, none⟩, sl + xl, grownCap w (sl + xl) sc e⟩ : Sl), _, hr, hK _ _ (grown sc (by omega)) ((Mod.refl _ w).drew.alloc _) (.inr ⟨_, rfl, Nat.le_refl _⟩) (fun h => by cases h) (fun h => absurd h (by show ¬ (xs.length + ys.length ≤ sc); omega))⟩

theorem append_i {α : Type} {P : Program} {t e : TypeId} {n bytes : Nat} {z : List Value} (hE : Elem P t e n bytes z) {enc : α → List Value} (henc : ∀ x, (enc x).length = n) (hone : ∀ x, ∀ u ∈ enc x, u.oneCell' = true)
    {w : World} {s x : Sl} {xs ys : List α} (hs : Vec w e n enc s xs) (hx : Rd w x n enc ys) (h63 : xs.length + ys.length ≤ 9223372036854775807) (hbytes : (xs.length + ys.length) * bytes ≤ 140737488355328) {K : Sl → World → Prop}
    (hK : ∀ r w', Vec w' e n enc r (xs ++ ys) → Mod (fun k => ∃ a, s.b = some a ∧ k = a.block) w w' → (r.b = s.b ∨ ∃ a, r.b = some a ∧ w.heap.size ≤ a.block) → (r.b = none → s.b = none) → K r w') :
    appendD P t t s (.slice x.b x.l x.c) w K :=
  append_j hE henc hone hs hx h63 hbytes fun r w' h1 h2 h3 h4 _ => hK r w' h1 h2 h3 h4

theorem madeCells_flat {α : Type} (z : Array Value) (enc : α → List Value) (x : α) (hz : enc x = z.toList) (k : Nat) (hp : 0 < z.size) : (madeCells z (k * z.size)).toList = (List.replicate k x).flatMap enc := by
  apply List.ext_getElem?
  intro j
  have hl : ((List.replicate k x).flatMap enc).length = k * z.size := by
    clear hp
    induction k with
    | zero => simp
    | succ k ih => rw [List.replicate_succ, List.flatMap_cons, List.length_append, ih, hz, Array.length_toList, Nat.add_mul]; omega
  by_cases hj : j < k * z.size
  · have hm : j % z.size < z.size := Nat.mod_lt _ hp
    have h1 : (madeCells z (k * z.size)).toList[j]? = some z[j % z.size] := by
      simp [madeCells, hj, hm]
    rw [h1]
    symm
    have hn : j / z.size < k := Nat.div_lt_of_lt_mul (by rwa [Nat.mul_comm])
    have : ∀ k j, j < k * z.size → ((List.replicate k x).flatMap enc)[j]? = some (z[j % z.size]'(Nat.mod_lt _ hp)) := by
      intro k
      induction k with
      | zero => intro j h; omega
      | succ k ih =>
        intro j h
        rw [List.replicate_succ, List.flatMap_cons, hz]
        by_cases hjz : j < z.size
        · rw [List.getElem?_append_left (by simpa using hjz)]
          simp [Nat.mod_eq_of_lt hjz, hjz]
        · rw [List.getElem?_append_right (by simp; omega), Array.length_toList, ih _ (by rw [Nat.add_mul] at h; omega)]
          have : (j - z.size) % z.size = j % z.size := by rw [← Nat.mod_eq_sub_mod (by omega)]
          simp only [this]
    exact this k j hj
  · rw [List.getElem?_eq_none (by simp [madeCells]; omega), List.getElem?_eq_none (by omega)]

theorem make_i {α : Type} {P : Program} {t e : TypeId} {n bytes : Nat} {z : List Value} (hE : Elem P t e n bytes z) {enc : α → List Value} (x : α) (hx : enc x = z) (henc : ∀ x, (enc x).length = n)
    {w : World} {k k' : IntKind} {l c : Int} (h0 : 0 ≤ l) (hlc : l ≤ c) (hbytes : (bytes : Int) * c ≤ 281474976710656) (h63 : c ≤ 9223372036854775807) {K : Sl → World → Prop}
    (hK : ∀ w', Vec w' e n enc ⟨some ⟨w.heap.size, 0, none⟩, l.toNat, c.toNat⟩ (List.replicate l.toNat x) → Keep w w' → K ⟨some ⟨w.heap.size, 0, none⟩, l.toNat, c.toNat⟩ w') :
    makeSliceD P t (.int k l) (.int k' c) w K := by
  obtain ⟨i, zv, hi, hz, rfl, rfl, rfl⟩ := hE.info
  have hzs : zv.cells.size = i.size := by have := hE.zlen; simpa using this
  refine ⟨⟨some ⟨w.heap.size, 0, none⟩, l.toNat, c.toNat⟩, _, run_make (P := P) w t e i zv hE.under hi hz k k' l c h0 hlc hbytes h63, hK _ ?_ (Keep.alloc w _)⟩
  have hct : l.toNat ≤ c.toNat := by omega
  have heq : (madeCells zv.cells (c.toNat * i.size)).toList = (List.replicate l.toNat x).flatMap enc ++ (List.replicate (c.toNat - l.toNat) x).flatMap enc := by
    rw [← List.flatMap_append, List.replicate_append_replicate, show l.toNat + (c.toNat - l.toNat) = c.toNat by omega, ← hzs]
    exact madeCells_flat zv.cells enc x hx _ (by rw [hzs]; exact hE.pos)
  refine ⟨by simp, hct, by simp only [maxLen]; show c.toNat ≤ _; omega, .inr ⟨w.heap.size, (List.replicate (c.toNat - l.toNat) x).flatMap enc, rfl, ?_, ?_⟩⟩
  · rw [← heq]; exact Own.alloc' w _ e
  · rw [← heq, Array.length_toList, size_madeCells]

/-- '[]byte("..")' of a constant. -/
theorem conv_bytes_const {P : Program} {w : World} {t e : TypeId} {C : Array Value} {n c : Nat} (ht : P.underlying t = some (.slice e)) (he : P.underlying e = some (.int .u8)) {K : Sl → World → Prop}
    (hK : ∀ w', Keep w w' → w'.heap[w.heap.size]? = some (.cells C e (C.size, C.size + 1)) → K ⟨some ⟨w.heap.size, 0, none⟩, n, c⟩ w') :
    convD P (.c .slice) t t (.slice (some ⟨w.heap.size, 0, none⟩) n c) (w.alloc (.cells C e)) K :=
  ⟨⟨some ⟨w.heap.size, 0, none⟩, n, c⟩, _, Lib.run_convert_bytes_const w t e C n c ht he, hK _ (Keep.alloc w _) (heap_alloc_new w _)⟩

end Go.Den
