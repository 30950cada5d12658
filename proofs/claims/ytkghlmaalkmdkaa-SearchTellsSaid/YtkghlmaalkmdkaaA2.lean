/-
  A store of rules for the denotation: what a statement asks of the world, and how it is met. Memory as rows; what is kept.
-/
import Derived.Laws.AppendOwn
import Derived.Laws.OwnMore
import Derived.Laws.CopyRow
import Derived.Below
import Derived.Lib.SmallJoins
import Derived.Lib.Overlaps
import Derived.MapKept
import Derived.WalkKit
import Derived.ProofKit
import Derived.OpenShut
import Derived.JoinedOf
import Derived.Handed
import Derived.WideKeyArgs
import Derived.ChangeSlices
import Derived.Laws.IdiomArrays
import Derived.Laws.BytesArg
import Derived.Test.YtkghlmaalkmdkaaA1
namespace Go.Den
open Go

/-! ### What is kept -/

/-- Of the old blocks only those of 'F' may have turned. -/
structure Mod (F : Nat → Prop) (w w' : World) : Prop where
  os : w'.os = w.os
  tape : w'.tape = w.tape
  output : w'.output = w.output
  size : w.heap.size ≤ w'.heap.size
  block : ∀ k, k < w.heap.size → ¬ F k → w'.heap[k]? = w.heap[k]?
abbrev Keep (w w' : World) : Prop := Mod (fun _ => False) w w'

theorem Mod.refl (F : Nat → Prop) (w : World) : Mod F w w := ⟨rfl, rfl, rfl, Nat.le_refl _, fun _ _ _ => rfl⟩
theorem Mod.mono {F G : Nat → Prop} {w w' : World} (h : Mod F w w') (hs : ∀ k, k < w.heap.size → F k → G k) : Mod G w w' :=
  ⟨h.os, h.tape, h.output, h.size, fun k hk hn => h.block k hk fun hf => hn (hs k hk hf)⟩
theorem Mod.trans {F G : Nat → Prop} {a b c : World} (h : Mod F a b) (h' : Mod G b c) (hs : ∀ k, k < a.heap.size → G k → F k) : Mod F a c :=
  ⟨h'.os.trans h.os, h'.tape.trans h.tape, h'.output.trans h.output, Nat.le_trans h.size h'.size,
    fun k hk hn => (h'.block k (Nat.lt_of_lt_of_le hk h.size) fun hg => hn (hs k hk hg)).trans (h.block k hk hn)⟩
theorem Mod.tr {F : Nat → Prop} {a b c : World} (h : Mod F a b) (h' : Mod F b c) : Mod F a c := h.trans h' fun _ _ h => h
theorem Keep.mod {F : Nat → Prop} {w w' : World} (h : Keep w w') : Mod F w w' := h.mono fun _ _ h => h.elim
theorem Mod.wk {F : Nat → Prop} {w w' : World} (h : Mod (fun _ => False) w w') : Mod F w w' := h.mono fun _ _ h => h.elim
theorem Mod.drew {F : Nat → Prop} {a w : World} (h : Mod F a w) : Mod F a w.drew := ⟨h.os, h.tape, h.output, h.size, h.block⟩
theorem Keep.alloc (w : World) (o : Obj) : Keep w (w.alloc o) := ⟨rfl, rfl, rfl, by simp, fun k hk _ => RowKit.Below.heap_alloc w o k hk⟩
theorem Mod.alloc {F : Nat → Prop} {a w : World} (h : Mod F a w) (o : Obj) : Mod F a (w.alloc o) := h.trans (Keep.alloc w o) fun _ _ h => h.elim
theorem Mod.setRow (w : World) (g : Nat) (cs : Array Value) : Mod (fun k => k = g) w (w.setRow g cs) := ⟨rfl, rfl, rfl, by simp, fun k _ hk => setRow_other w g k cs hk⟩
theorem Mod.setCell (w : World) (a : Addr) (u : Value) : Mod (fun k => k = a.block) w (w.setCell a u) :=
  ⟨rfl, rfl, rfl, by simp [World.setCell], fun k _ hk => heap_setCell_other w a k u hk⟩
/-- Only new blocks have turned. -/
theorem Mod.fresh {F G : Nat → Prop} {a w w' : World} (h : Mod F a w) (h' : Mod G w w') (hs : ∀ k, G k → a.heap.size ≤ k) : Mod F a w' :=
  h.trans h' fun k hk hg => absurd (hs k hg) (by omega)
theorem Mod.below {w w' : World} {B : Nat} (h : Mod (fun k => B ≤ k) w w') (hB : B ≤ w.heap.size) : RowKit.Below B w w' :=
  ⟨h.os, h.tape, h.output, h.size, fun k hk => h.block k (by omega) (by omega)⟩
theorem Keep.below {w w' : World} (h : Keep w w') : RowKit.Below w.heap.size w w' := ⟨h.os, h.tape, h.output, h.size, fun k hk => h.block k hk id⟩

theorem cell_lt {w : World} {a : Addr} {v : Value} (h : w.cell? a = some v) : a.block < w.heap.size := World.block_lt_of_cell? w a h
theorem Mod.cell {F : Nat → Prop} {w w' : World} (h : Mod F w w') {a : Addr} {v : Value} (hc : w.cell? a = some v) (hn : ¬ F a.block) : w'.cell? a = some v :=
  (World.cell?_of_block (h.block _ (cell_lt hc) hn)).trans hc

theorem add_add (a : Addr) (m n : Nat) : (a.add m).add n = a.add (m + n) := by
  unfold Addr.add
  by_cases hm : m = 0 <;> by_cases hn : n = 0 <;> simp [hm, hn, Nat.add_assoc]
@[simp] theorem add_block (a : Addr) (n : Nat) : (a.add n).block = a.block := by unfold Addr.add; split <;> rfl
theorem add_zero (a : Addr) : a.add 0 = a := by simp [Addr.add]

theorem holds_keep {w w' : World} {a : Addr} (hb : w'.heap[a.block]? = w.heap[a.block]?) : ∀ {vs : List Value} {i : Nat}, HoldsAt w a i vs → HoldsAt w' a i vs
  | [], _, _ => trivial
  | _ :: _, _, h => ⟨(World.cell?_of_block (w := w) (by simpa using hb)).trans h.1, holds_keep hb h.2⟩
theorem holds_shift {w : World} {a : Addr} {m : Nat} : ∀ {vs : List Value} {i : Nat}, HoldsAt w (a.add m) i vs ↔ HoldsAt w a (m + i) vs
  | [], _ => Iff.rfl
  | _ :: _, i => by simp only [HoldsAt, add_add]; rw [holds_shift]; rfl
theorem holds_iff {w : World} {a : Addr} : ∀ {vs : List Value} {i : Nat}, HoldsAt w a i vs ↔ ∀ j v, vs[j]? = some v → w.cell? (a.add (i + j)) = some v
  | [], i => by simp [HoldsAt]
  | v :: r, i => by
    simp only [HoldsAt]
    rw [holds_iff (vs := r) (i := i + 1)]
    constructor
    · rintro ⟨h1, h2⟩ j u hu
      cases j with
      | zero => simp only [List.getElem?_cons_zero, Option.some.injEq] at hu; subst hu; exact h1
      | succ j => simp only [List.getElem?_cons_succ] at hu; have := h2 j u hu; rwa [show i + 1 + j = i + (j + 1) by omega] at this
    · intro h
      exact ⟨h 0 v rfl, fun j u hu => by have := h (j + 1) u hu; rwa [show i + (j + 1) = i + 1 + j by omega] at this⟩

/-! ### Slices that are read -/

/-- The slice's places hold these, each in 'n' cells. -/
structure Rd {α : Type} (w : World) (s : Sl) (n : Nat) (enc : α → List Value) (xs : List α) : Prop where
  len : s.l = xs.length
  cap : s.l ≤ s.c
  get : ∀ i x, xs[i]? = some x → ∃ a, s.b = some a ∧ HoldsAt w (a.add (i * n)) 0 (enc x)

theorem Rd.nil {α : Type} (w : World) (n : Nat) (enc : α → List Value) : Rd w ⟨none, 0, 0⟩ n enc [] := ⟨rfl, Nat.le_refl _, fun i x h => by simp at h⟩
theorem Rd.keep {α : Type} {w w' : World} {s : Sl} {n : Nat} {enc : α → List Value} {xs : List α} (h : Rd w s n enc xs) (hb : ∀ a, s.b = some a → w'.heap[a.block]? = w.heap[a.block]?) : Rd w' s n enc xs :=
  ⟨h.len, h.cap, fun i x hx => by obtain ⟨a, ha, hh⟩ := h.get i x hx; exact ⟨a, ha, holds_keep (by simpa using hb a ha) hh⟩⟩
theorem Rd.mod {α : Type} {F : Nat → Prop} {w w' : World} {s : Sl} {n : Nat} {enc : α → List Value} {xs : List α} (h : Rd w s n enc xs) (hm : Mod F w w') (hne : ∀ x, enc x ≠ [])
    (hF : ∀ a, s.b = some a → ¬ F a.block) : Rd w' s n enc xs :=
  ⟨h.len, h.cap, fun i x hx => by
    obtain ⟨a, ha, hh⟩ := h.get i x hx
    have hlt : a.block < w.heap.size := by
      cases he : enc x with
      | nil => exact absurd he (hne x)
      | cons v r => rw [he] at hh; have := cell_lt hh.1; simpa using this
    exact ⟨a, ha, holds_keep (by simpa using hm.block _ hlt (hF a ha)) hh⟩⟩
/-- What was there at first stays, whatever new blocks do. -/
theorem Rd.later {α : Type} {w w' : World} {s : Sl} {n : Nat} {enc : α → List Value} {xs : List α} (h : Rd w s n enc xs) (hm : Mod (fun k => w.heap.size ≤ k) w w') (hne : ∀ x, enc x ≠ []) : Rd w' s n enc xs :=
  ⟨h.len, h.cap, fun i x hx => by
    obtain ⟨a, ha, hh⟩ := h.get i x hx
    have hlt : a.block < w.heap.size := by
      cases he : enc x with
      | nil => exact absurd he (hne x)
      | cons v r => rw [he] at hh; have := cell_lt hh.1; simpa using this
    exact ⟨a, ha, holds_keep (by simpa using hm.block _ hlt (by omega)) hh⟩⟩
/-- A part of it. -/
theorem Rd.part {α : Type} {w : World} {s : Sl} {n : Nat} {enc : α → List Value} {xs : List α} (h : Rd w s n enc xs) {i j c : Nat} (hij : i ≤ j) (hj : j ≤ s.l) (hc : j ≤ c) (_ : c ≤ s.c) :
    Rd w ⟨sliceAddr s.b s.c i n, j - i, c - i⟩ n enc ((xs.drop i).take (j - i)) := by
  refine ⟨?_, ?_, fun k x hk => ?_⟩
  · have := h.len; simp only [List.length_take, List.length_drop]; omega
  · show j - i ≤ c - i; omega
  · have hlt : k < j - i := by
      have := (List.getElem?_eq_some_iff.1 hk).1; simp at this; omega
    rw [List.getElem?_take_of_lt hlt, List.getElem?_drop] at hk
    obtain ⟨a, ha, hh⟩ := h.get (i + k) x hk
    refine ⟨a.add (i * n), ?_, ?_⟩
    · show sliceAddr s.b s.c i n = _
      have : s.c ≠ i := by have := h.cap; omega
      simp [sliceAddr, this, ha]
    · rw [add_add, ← Nat.add_mul]; exact hh

/-- What a block holds, read from its beginning. -/
theorem rd_row {α : Type} {w : World} {g : Nat} {cs : Array Value} {e : TypeId} {fr : Nat × Nat} (h : w.heap[g]? = some (.cells cs e fr)) {n c : Nat} {enc : α → List Value} {xs : List α} (hc : xs.length ≤ c)
    (hx : ∀ i x, xs[i]? = some x → ∀ j v, (enc x)[j]? = some v → cs[i * n + j]? = some v) : Rd w ⟨some ⟨g, 0, none⟩, xs.length, c⟩ n enc xs := by
  refine ⟨rfl, hc, fun i x hi => ⟨_, rfl, ?_⟩⟩
  rw [holds_iff]
  intro j v hj
  rw [add_add, show (⟨g, 0, none⟩ : Addr).add (i * n + (0 + j)) = ⟨g, i * n + j, none⟩ by unfold Addr.add; split <;> simp_all, cell_of_row _ _ _ cs e fr h]
  exact hx i x hi j v hj
/-- .. of one cell each. -/
theorem rd_row1 {α : Type} {w : World} {g : Nat} {cs : Array Value} {e : TypeId} {fr : Nat × Nat} (h : w.heap[g]? = some (.cells cs e fr)) {c : Nat} {enc : α → Value} {xs : List α} (hc : xs.length ≤ c)
    (hx : cs.toList = xs.map enc) : Rd w ⟨some ⟨g, 0, none⟩, xs.length, c⟩ 1 (fun x => [enc x]) xs :=
  rd_row h hc fun i x hi j v hj => by
    have hj0 : j = 0 := by have := (List.getElem?_eq_some_iff.1 hj).1; simp at this; exact this
    subst hj0
    simp at hj
    subst hj
    have : cs.toList[i]? = some (enc x) := by rw [hx, List.getElem?_map, hi]; rfl
    simpa using this

/-! ### Rules -/

theorem cond_i {b : Bool} {A B : Prop} (h1 : b = true → A) (h2 : b = false → B) : cond b A B := by cases b <;> simp_all
theorem cond_d {p : Prop} [Decidable p] {A B : Prop} (h1 : p → A) (h2 : ¬ p → B) : cond (decide p) A B := by by_cases h : p <;> simp_all
theorem onSome_i {p : Option Addr} {K : Addr → Prop} {a : Addr} (h : p = some a) (hK : K a) : onSome p K := by subst h; exact hK
theorem ld1_i {k : CK} {w : World} {a : Addr} {K : k.T → Prop} (x : k.T) (h : w.cell? a = some (k.enc x)) (hK : K x) : ld1 k w a K := ⟨x, h, hK⟩
theorem ldN_i {l : List CK} {w : World} {a : Addr} {K : CTs l → Prop} (x : CTs l) (h : HoldsAt w a 0 (encs l x)) (hK : K x) : ldN l w a K := ⟨x, h, hK⟩

/-- A loop, by what stands at its head and a measure. -/
theorem loop_i {S : Type} {body : (S → World → Prop) → S → World → Prop} (I : Nat → S → World → Prop) (n : Nat) {t : S} {w : World} (h0 : I n t w)
    (step : ∀ n t w, I n t w → ∀ X : S → World → Prop, (∀ m t' w', m < n → I m t' w' → X t' w') → body X t w) :
    ∀ X : S → World → Prop, (∀ t w, body X t w → X t w) → X t w := by
  intro X hX
  induction n using Nat.strongRecOn generalizing t w with
  | ind n ih => exact hX t w (step n t w h0 X fun m t' w' hm h => ih m hm h)

theorem w64 {n : Int} (h0 : -9223372036854775808 ≤ n) (h1 : n ≤ 9223372036854775807) : IntKind.wrap .i64 n = n := by rw [IntKind.wrap_i64]; omega

theorem alloc_new (w : World) (o : Obj) : (w.alloc o).heap[w.heap.size]? = some o := heap_alloc_new w o

/-- What was laid in a new block is read there. -/
theorem holds_alloc (w : World) (cs : Array Value) (t : TypeId) : HoldsAt (w.alloc (.cells cs t)) ⟨w.heap.size, 0, none⟩ 0 cs.toList := by
  rw [holds_iff]
  intro j v hv
  have : (⟨w.heap.size, 0, none⟩ : Addr).add (0 + j) = ⟨w.heap.size, j, none⟩ := by unfold Addr.add; split <;> simp_all
  rw [this, cell_of_row _ _ _ cs t (0, 0) (heap_alloc_new w _)]
  simpa using hv

/-! ### Blocks of one's own -/

theorem w64n (n : Nat) (h : n ≤ 9223372036854775807) : IntKind.wrap .i64 (n : Int) = (n : Int) := w64 (by omega) (by omega)
theorem addr_lit (g o n : Nat) : (⟨g, o, none⟩ : Addr).add n = ⟨g, o + n, none⟩ := by unfold Addr.add; split <;> simp_all

/-- A block that may be written: what it holds. -/
def Own (w : World) (g : Nat) (e : TypeId) (cs : List Value) : Prop := w.heap[g]? = some (.cells cs.toArray e (0, 0))

theorem Own.lt {w : World} {g : Nat} {e : TypeId} {cs : List Value} (h : Own w g e cs) : g < w.heap.size := (Array.getElem?_eq_some_iff.1 h).1
theorem Own.mod {F : Nat → Prop} {w w' : World} {g : Nat} {e : TypeId} {cs : List Value} (h : Own w g e cs) (hm : Mod F w w') (hF : ¬ F g) : Own w' g e cs := (hm.block g h.lt hF).trans h
theorem Own.cell {w : World} {g : Nat} {e : TypeId} {cs : List Value} (h : Own w g e cs) (j : Nat) : w.cell? ⟨g, j, none⟩ = cs[j]? := by
  rw [cell_of_row w g j _ e (0, 0) h]; simp
theorem Own.holds {w : World} {g : Nat} {e : TypeId} {cs : List Value} (h : Own w g e cs) {o : Nat} {vs : List Value} (hv : ∀ j v, vs[j]? = some v → cs[o + j]? = some v) : HoldsAt w ⟨g, o, none⟩ 0 vs := by
  rw [holds_iff]
  intro j v hj
  rw [addr_lit, Nat.zero_add, h.cell]
  exact hv j v hj
theorem Own.alloc (w : World) (cs : List Value) (e : TypeId) : Own (w.alloc (.cells cs.toArray e)) w.heap.size e cs := heap_alloc_new w _
theorem Own.alloc' (w : World) (cs : Array Value) (e : TypeId) : Own (w.alloc (.cells cs e)) w.heap.size e cs.toList := heap_alloc_new w _
theorem Own.setRow {w : World} {g : Nat} {e : TypeId} {cs : List Value} (h : Own w g e cs) (ds : List Value) : Own (w.setRow g ds.toArray) g e ds := setRow_heap w g _ _ e _ h

theorem storeD_i {P : Program} {t : TypeId} {g o : Nat} {v : Value} {w : World} {K : World → Prop} {e : TypeId} {cs : List Value} (h : Own w g e cs)
    (hi : (P.info? t).map (·.size) = some v.cells.size) (hfit : o + v.cells.size ≤ cs.length) (h1 : ∀ u ∈ v.cells.toList, u.oneCell' = true)
    (hK : ∀ w', Own w' g e (cs.take o ++ v.cells.toList ++ cs.drop (o + v.cells.size)) → Mod (fun k => k = g) w w' → w'.heap.size = w.heap.size → K w') : storeD P t ⟨g, o, none⟩ v w K := by
  have hst := run_storeCells_at P g o e v.cells.toList 0 cs.toArray w h (by simpa using hfit) h1
  cases hq : P.info? t with
  | none => simp [hq] at hi
  | some i =>
    have hs : v.cells.size = i.size := by simp [hq] at hi; omega
    refine ⟨_, ?_, hK _ (h.setRow _) (Mod.setRow w g _) (by simp)⟩
    simp [storeVar, sizeOf, typeInfo, hq, hs, hst]

theorem set_eq_splice {α : Type} (l : List α) (o : Nat) (v : α) (h : o < l.length) : l.take o ++ [v] ++ l.drop (o + 1) = l.set o v := by
  rw [List.set_eq_take_append_cons_drop, if_pos h]; simp

theorem storeD1_i {P : Program} {t : TypeId} {g o : Nat} {v : Value} {w : World} {K : World → Prop} {e : TypeId} {cs : List Value} (h : Own w g e cs)
    (hi : (P.info? t).map (·.size) = some 1) (hfit : o < cs.length) (hc : v.cells = #[v]) (h1 : v.oneCell' = true)
    (hK : ∀ w', Own w' g e (cs.set o v) → Mod (fun k => k = g) w w' → w'.heap.size = w.heap.size → K w') : storeD P t ⟨g, o, none⟩ v w K := by
  refine storeD_i h (by rw [hi, hc]; rfl) (by rw [hc]; exact hfit) (by rw [hc]; simpa using h1) fun w' h2 h3 h4 => hK w' ?_ h3 h4
  rw [hc] at h2
  simpa [set_eq_splice _ _ _ hfit, ← List.append_assoc] using h2

/-! ### Slices of one's own -/

/-- A slice over a block of one's own, from its beginning. -/
structure Vec {α : Type} (w : World) (e : TypeId) (n : Nat) (enc : α → List Value) (s : Sl) (xs : List α) : Prop where
  len : s.l = xs.length
  cap : s.l ≤ s.c
  max : s.c ≤ maxLen
  own : (s.b = none ∧ s.c = 0) ∨ ∃ g rest, s.b = some ⟨g, 0, none⟩ ∧ Own w g e (xs.flatMap enc ++ rest) ∧ (xs.flatMap enc ++ rest).length = s.c * n

theorem length_flatMap_enc {α : Type} {enc : α → List Value} {n : Nat} (henc : ∀ x, (enc x).length = n) : ∀ xs : List α, (xs.flatMap enc).length = xs.length * n
  | [] => by simp
  | x :: r => by simp only [List.flatMap_cons, List.length_append, henc, List.length_cons, length_flatMap_enc henc r]; rw [Nat.add_mul]; omega
theorem get_flatMap_enc {α : Type} {enc : α → List Value} {n : Nat} (henc : ∀ x, (enc x).length = n) : ∀ (xs : List α) (i : Nat) (x : α) (j : Nat) (v : Value) (rest : List Value), xs[i]? = some x → (enc x)[j]? = some v → (xs.flatMap enc ++ rest)[i * n + j]? = some v
  | [], i, x, j, v, rest, h, _ => by simp at h
  | y :: r, 0, x, j, v, rest, h, hv => by
    simp at h; subst h
    have : j < (enc y).length := (List.getElem?_eq_some_iff.1 hv).1
    simp only [List.flatMap_cons, Nat.zero_mul, Nat.zero_add, List.append_assoc]
    rw [List.getElem?_append_left this]; exact hv
  | y :: r, i + 1, x, j, v, rest, h, hv => by
    simp only [List.getElem?_cons_succ] at h
    simp only [List.flatMap_cons, List.append_assoc]
    rw [List.getElem?_append_right (by rw [henc, Nat.add_mul]; omega), henc, show (i + 1) * n + j - n = i * n + j by rw [Nat.add_mul]; omega]
    exact get_flatMap_enc henc r i x j v rest h hv

theorem Vec.nil {α : Type} (w : World) (e : TypeId) (n : Nat) (enc : α → List Value) : Vec w e n enc ⟨none, 0, 0⟩ [] := ⟨rfl, Nat.le_refl _, Nat.zero_le _, .inl ⟨rfl, rfl⟩⟩
theorem Vec.rd {α : Type} {w : World} {e : TypeId} {n : Nat} {enc : α → List Value} {s : Sl} {xs : List α} (h : Vec w e n enc s xs) (henc : ∀ x, (enc x).length = n) : Rd w s n enc xs := by
  refine ⟨h.len, h.cap, fun i x hx => ?_⟩
  have hlt : i < xs.length := (List.getElem?_eq_some_iff.1 hx).1
  rcases h.own with ⟨_, h2⟩ | ⟨g, rest, hb, ho, hl⟩
  · have := h.len; have := h.cap; omega
  · refine ⟨_, hb, ?_⟩
    rw [addr_lit]
    exact ho.holds fun j v hv => by rw [Nat.zero_add]; exact get_flatMap_enc henc xs i x j v rest hx hv
theorem Vec.mod {α : Type} {F : Nat → Prop} {w w' : World} {e : TypeId} {n : Nat} {enc : α → List Value} {s : Sl} {xs : List α} (h : Vec w e n enc s xs) (hm : Mod F w w') (hF : ∀ a, s.b = some a → ¬ F a.block) : Vec w' e n enc s xs :=
  ⟨h.len, h.cap, h.max, h.own.imp id fun ⟨g, rest, hb, ho, hl⟩ => ⟨g, rest, hb, ho.mod hm (hF _ hb), hl⟩⟩
theorem Vec.lt {α : Type} {w : World} {e : TypeId} {n : Nat} {enc : α → List Value} {s : Sl} {xs : List α} (h : Vec w e n enc s xs) {a : Addr} (ha : s.b = some a) : a.block < w.heap.size := by
  rcases h.own with ⟨h1, _⟩ | ⟨g, rest, hb, ho, hl⟩
  · rw [h1] at ha; cases ha
  · rw [hb] at ha; cases ha; exact ho.lt
/-- A literal of a slice. -/
theorem Vec.lit {α : Type} (w : World) (e : TypeId) {n : Nat} (enc : α → List Value) (henc : ∀ x, (enc x).length = n) (xs : List α) (cs : Array Value) (hc : cs.toList = xs.flatMap enc) (hm : xs.length ≤ maxLen) :
    Vec (w.alloc (.cells cs e)) e n enc ⟨some ⟨w.heap.size, 0, none⟩, xs.length, xs.length⟩ xs :=
  ⟨rfl, Nat.le_refl _, hm, .inr ⟨_, [], rfl, by rw [List.append_nil, ← hc]; exact Own.alloc' w cs e, by rw [List.append_nil]; exact length_flatMap_enc henc xs⟩⟩
/-- Its beginning. -/
theorem Vec.take {α : Type} {w : World} {e : TypeId} {n : Nat} {enc : α → List Value} {s : Sl} {xs : List α} (h : Vec w e n enc s xs) {i : Nat} (hi : i ≤ s.l) : Vec w e n enc ⟨s.b, i, s.c⟩ (xs.take i) := by
  refine ⟨by have := h.len; simp only [List.length_take]; omega, Nat.le_trans hi h.cap, h.max, h.own.imp id fun ⟨g, rest, hb, ho, hl⟩ => ⟨g, (xs.drop i).flatMap enc ++ rest, hb, ?_, ?_⟩⟩
  all_goals rw [← List.append_assoc, ← List.flatMap_append, List.take_append_drop]; assumption

theorem flatMap_set {α : Type} {enc : α → List Value} {n : Nat} (henc : ∀ x, (enc x).length = n) (rest : List Value) (x : α) : ∀ (xs : List α) (i : Nat), i < xs.length →
    (xs.flatMap enc ++ rest).take (i * n) ++ enc x ++ (xs.flatMap enc ++ rest).drop (i * n + n) = (xs.set i x).flatMap enc ++ rest
  | y :: r, 0, _ => by
    have : (enc y).length = n := henc y
    simp only [Nat.zero_mul, List.take_zero, List.nil_append, List.set_cons_zero, List.flatMap_cons, List.append_assoc, Nat.zero_add]
    rw [← this, List.drop_left]
  | y :: r, i + 1, h => by
    have hl : (enc y).length = n := henc y
    have ih := flatMap_set henc rest x r i (by simpa using h)
    simp only [List.set_cons_succ, List.flatMap_cons, List.append_assoc] at ih ⊢
    rw [← ih, show (i + 1) * n = (enc y).length + i * n by rw [Nat.add_mul, hl]; omega, List.take_length_add_append, show (enc y).length + i * n + n = (enc y).length + (i * n + n) by omega, List.drop_length_add_append, List.append_assoc]
/-- One place is written. -/
theorem Vec.store {α : Type} {P : Program} {t : TypeId} {w : World} {e : TypeId} {n : Nat} {enc : α → List Value} {s : Sl} {xs : List α} (h : Vec w e n enc s xs) (henc : ∀ x, (enc x).length = n) {a : Addr} (ha : s.b = some a)
    {i : Nat} (hi : i < xs.length) (x : α) {v : Value} (hv : v.cells.toList = enc x) (ht : (P.info? t).map (·.size) = some n) (hone : ∀ u ∈ enc x, u.oneCell' = true) {K : World → Prop}
    (hK : ∀ w', Vec w' e n enc s (xs.set i x) → Mod (fun k => k = a.block) w w' → w'.heap.size = w.heap.size → K w') : storeD P t (a.add (i * n)) v w K := by
  rcases h.own with ⟨h1, _⟩ | ⟨g, rest, hb, ho, hl⟩
  · rw [h1] at ha; cases ha
  · rw [hb] at ha; cases ha
    rw [addr_lit, Nat.zero_add]
    have hvs : v.cells.size = n := by rw [← henc x, ← hv, Array.length_toList]
    have hfl := length_flatMap_enc henc xs
    have hin : i * n + n ≤ xs.length * n := by have := Nat.mul_le_mul_right n (show i + 1 ≤ xs.length from hi); rwa [Nat.add_mul, Nat.one_mul] at this
    refine storeD_i ho (by rw [ht, hvs]) (by rw [hvs, List.length_append, hfl]; omega) (by rw [hv]; exact hone) fun w' h2 h3 h4 => hK w' ⟨by rw [List.length_set]; exact h.len, h.cap, h.max, .inr ⟨g, rest, hb, ?_, ?_⟩⟩ h3 h4
    · rw [hv, hvs, flatMap_set henc rest x xs i hi] at h2; exact h2
    · rw [← hl, List.length_append, List.length_append, length_flatMap_enc henc, length_flatMap_enc henc, List.length_set]

/-- What is known of a slice's type. -/
structure Elem (P : Program) (t e : TypeId) (n bytes : Nat) (z : List Value) : Prop where
  under : P.underlying t = some (.slice e)
  facts : (P.info? e).map (fun i => (i.zero.map fun v => v.cells.toList, i.size, i.bytes)) = some (some z, n, bytes)
  pos : 0 < n
  zlen : z.length = n
theorem Elem.info {P : Program} {t e : TypeId} {n bytes : Nat} {z : List Value} (h : Elem P t e n bytes z) : ∃ i zv, P.info? e = some i ∧ i.zero = some zv ∧ zv.cells.toList = z ∧ i.size = n ∧ i.bytes = bytes := by
  have hm := h.facts
  cases hi : P.info? e with
  | none => simp [hi] at hm
  | some i =>
    cases hz : i.zero with
    | none => simp [hi, hz] at hm
    | some zv => simp [hi, hz] at hm; exact ⟨i, zv, rfl, hz, hm.1, hm.2.1, hm.2.2⟩

theorem firstCells_rd {α : Type} {w : World} {x : Sl} {n : Nat} {enc : α → List Value} {ys : List α} (hx : Rd w x n enc ys) (henc : ∀ x, (enc x).length = n) {a : Addr} (ha : x.b = some a) :
    ∀ j u, (ys.flatMap enc)[j]? = some u → w.cell? (a.add j) = some u := by
  intro j u hu
  have hlt : j < ys.length * n := by have := (List.getElem?_eq_some_iff.1 hu).1; rwa [length_flatMap_enc henc] at this
  have hn : 0 < n := by rcases Nat.eq_zero_or_pos n with h | h; · subst h; omega
                        · exact h
  have hi : j / n < ys.length := Nat.div_lt_of_lt_mul (by rwa [Nat.mul_comm])
  have hm : j % n < n := Nat.mod_lt _ hn
  obtain ⟨a', ha', hh⟩ := hx.get (j / n) ys[j / n] (List.getElem?_eq_getElem hi)
  rw [ha] at ha'; cases ha'
  have hlt2 : j % n < (enc ys[j / n]).length := by rw [henc]; exact hm
  have h2 := get_flatMap_enc henc ys (j / n) _ (j % n) _ [] (List.getElem?_eq_getElem hi) (List.getElem?_eq_getElem hlt2)
  rw [List.append_nil, Nat.div_add_mod', hu] at h2
  cases h2
  have := (holds_iff.1 hh) (j % n) _ (List.getElem?_eq_getElem hlt2)
  rwa [add_add, Nat.zero_add, Nat.div_add_mod'] at this

theorem append_j {α : Type} {P : Program} {t e : TypeId} {n bytes : Nat} {z : List Value} (hE : Elem P t e n bytes z) {enc : α → List Value} (henc : ∀ x, (enc x).length = n) (hone : ∀ x, ∀ u ∈ enc x, u.oneCell' = true)
    {w : World} {s x : Sl} {xs ys : List α} (hs : Vec w e n enc s xs) (hx : Rd w x n enc ys) (h63 : xs.length + ys.length ≤ 9223372036854775807) (hbytes : (xs.length + ys.length) * bytes ≤ 140737488355328) {K : Sl → World → Prop}
    (hK : ∀ r w', Vec w' e n enc r (xs ++ ys) → Mod (fun k => ∃ a, s.b = some a ∧ k = a.block) w w' → (r.b = s.b ∨ ∃ a, r.b = some a ∧ w.heap.size ≤ a.block) → (r.b = none → s.b = none) → (xs.length + ys.length ≤ s.c → r = ⟨s.b, s.l + x.l, s.c⟩) → K r w') :
    appendD P t t s (.slice x.b x.l x.c) w K := by
  obtain ⟨i, zv, hi, hz, rfl, rfl, rfl⟩ := hE.info
  have ht := hE.under
  obtain ⟨sb, sl, sc⟩ := s
  obtain ⟨xb, xl, xc⟩ := x
  have hsl : sl = xs.length := hs.len
  have hxl : xl = ys.length := hx.len
  have hscap : sl ≤ sc := hs.cap
  by_cases hy : ys = []
  · subst hy
    have hxl0 : xl = 0 := hxl
    subst hxl0
    refine ⟨⟨sb, sl, sc⟩, w, ?_, hK _ _ (by rw [List.append_nil]; exact hs) (Mod.refl _ _) (.inl rfl) id (fun _ => rfl)⟩
    cases xb <;> cases sb <;> simp [Builtin.append_, run_underlying ht, sizeOf, typeInfo, hi, Builtin.lenOf, Builtin.firstCells, hscap, storeCells, loadCells, loadCellsFrom, Knd.enc, CK.enc]
  have hpos : 0 < ys.length := List.length_pos_iff.2 hy
  obtain ⟨ax, hax, _⟩ := hx.get 0 ys[0] (List.getElem?_eq_getElem hpos)
  have hax' : xb = some ax := hax
  subst hax'
  have hnews := firstCells_rd hx henc (a := ax) rfl
  have hl : (ys.flatMap enc).length = xl * i.size := by rw [length_flatMap_enc henc, hxl]
  have hone' : ∀ u ∈ ys.flatMap enc, u.oneCell' = true := fun u hu => by obtain ⟨y, _, hy⟩ := List.mem_flatMap.1 hu; exact hone y u hy
  have hzs : zv.cells.size = i.size := by have := hE.zlen; simpa using this
  have hm63 : xs.length + ys.length ≤ maxLen := by simp only [maxLen]; omega
  -- a new block
  have grown : ∀ old, old < sl + xl → Vec (w.drew.alloc (.cells ((xs.flatMap enc).toArray ++ (ys.flatMap enc).toArray ++ Builtin.zeroCells zv.cells (grownCap w (sl + xl) old e - (sl + xl))) e)) e i.size enc
      ⟨some ⟨w.heap.size, 0, none⟩, sl + xl, grownCap w (sl + xl) old e⟩ (xs ++ ys) := fun old hold => by
    have hge := grownCap_ge w (sl + xl) old e
    have hcm : grownCap w (sl + xl) old e ≤ maxLen := grownCap_le_maxLen w (sl + xl) old e (by omega)
    refine ⟨by simp [hsl, hxl], hge, hcm, .inr ⟨w.heap.size, (Builtin.zeroCells zv.cells (grownCap w (sl + xl) old e - (sl + xl))).toList, rfl, ?_, ?_⟩⟩
    · have := Own.alloc' w.drew ((xs.flatMap enc).toArray ++ (ys.flatMap enc).toArray ++ Builtin.zeroCells zv.cells (grownCap w (sl + xl) old e - (sl + xl))) e
      simpa [List.append_assoc] using this
    · simp only [List.length_append, length_flatMap_enc henc, Array.length_toList, size_zeroCells, hzs, ← hsl, ← hxl]
      rw [← Nat.add_mul]
      congr 1
      show sl + xl + (grownCap w (sl + xl) old e - (sl + xl)) = grownCap w (sl + xl) old e
      omega
  rcases hs.own with ⟨hb, hc⟩ | ⟨g, rest, hb, ho, hlen⟩
  · have hb' : sb = none := hb
    have hc' : sc = 0 := hc
    subst hb'; subst hc'
    have hsl0 : sl = 0 := by omega
    have hxs : xs = [] := List.eq_nil_of_length_eq_zero (by omega)
    subst hxs
    have hr := run_append_nil (P := P) w t 0 e i zv ht hi hz ax xl xc (ys.flatMap enc) hl hnews (by omega) (by omega) (by simp at hbytes; rw [hxl]; omega)
    have hg := grown 0 (by omega)
    subst hsl0
    refine ⟨(⟨some ⟨w.heap.size, 0, none⟩, xl, grownCap w xl 0 e⟩ : Sl), _, hr, ?_⟩
    simp only [Nat.zero_add, List.flatMap_nil] at hg
    have hg' : Vec (w.drew.alloc (.cells ((ys.flatMap enc).toArray ++ Builtin.zeroCells zv.cells (grownCap w xl 0 e - xl)) e)) e i.size enc ⟨some ⟨w.heap.size, 0, none⟩, xl, grownCap w xl 0 e⟩ ([] ++ ys) := by simpa using hg
    exact hK _ _ hg' ((Mod.refl _ w).drew.alloc _) (.inr ⟨_, rfl, Nat.le_refl _⟩) (fun h => by cases h) (fun h => absurd h (by show ¬ (0 + ys.length ≤ 0); omega))
  · have hb' : sb = some ⟨g, 0, none⟩ := hb
    subst hb'
    by_cases hroom : sl + xl ≤ sc
    · have htake : ((xs.flatMap enc ++ rest).take (sl * i.size)) = xs.flatMap enc := by
        have : (xs.flatMap enc).length = sl * i.size := by rw [length_flatMap_enc henc, hsl]
        rw [← this]; exact List.take_left
      have hlen' : (xs.flatMap enc ++ rest).length = sc * i.size := hlen
      have hfit : sl * i.size + (ys.flatMap enc).length ≤ (xs.flatMap enc ++ rest).toArray.size := by
        rw [hl, ← Nat.add_mul, List.size_toArray, hlen']; exact Nat.mul_le_mul_right _ hroom
      have hr := run_append_room (P := P) w t 0 e i ht hi g sl sc (xs.flatMap enc ++ rest).toArray ho ax xl xc (ys.flatMap enc) hl hnews hone' hroom hfit
      simp only [htake] at hr
      refine ⟨(⟨some ⟨g, 0, none⟩, sl + xl, sc⟩ : Sl), _, hr, hK ⟨some ⟨g, 0, none⟩, sl + xl, sc⟩ _ ⟨by simp [hsl, hxl], hroom, hs.max, .inr ⟨g, (xs.flatMap enc ++ rest).drop (sl * i.size + (ys.flatMap enc).length), rfl, ?_, ?_⟩⟩ ?_ (.inl rfl) (fun h => by cases h) (fun _ => rfl)⟩
      · have := Own.setRow ho (xs.flatMap enc ++ ys.flatMap enc ++ (xs.flatMap enc ++ rest).drop (sl * i.size + (ys.flatMap enc).length))
        simpa [List.flatMap_append] using this
      · simp only [List.size_toArray] at hfit
        rw [List.flatMap_append, List.length_append, List.length_append, List.length_drop, length_flatMap_enc henc xs, ← hsl]
        show _ = sc * i.size
        omega
      · exact (Mod.setRow w g _).mono fun k _ hk => ⟨_, rfl, hk⟩
    · have holds : ∀ j u, (xs.flatMap enc)[j]? = some u → w.cell? ((⟨g, 0, none⟩ : Addr).add j) = some u := firstCells_rd (hs.rd henc) henc rfl
      have hr := run_append_grow (P := P) w t 0 e i zv ht hi hz ⟨g, 0, none⟩ sl sc (xs.flatMap enc) (by rw [length_flatMap_enc henc, hsl]) holds ax xl xc (ys.flatMap enc) hl hnews (by omega) (by omega) (growslice_fits (by omega) (by rw [hsl, hxl]; exact hbytes))
      exact ⟨(⟨some ⟨w.heap.size, 0, none⟩, sl + xl, grownCap w (sl + xl) sc e⟩ : Sl), _, hr, hK _ _ (grown sc (by omega)) ((Mod.refl _ w).drew.alloc _) (.inr ⟨_, rfl, Nat.le_refl _⟩) (fun h => by cases h) (fun h => absurd h (by show ¬ (xs.length + ys.length ≤ sc); omega))⟩

theorem append_i {α : Type} {P : Program} {t e : TypeId} {n bytes : Nat} {z : List Value} (hE : Elem P t e n bytes z) {enc : α → List Value} (henc : ∀ x, (enc x).length = n) (hone : ∀ x, ∀ u ∈ enc x, u.oneCell' = true)
    {w : World} {s x : Sl} {xs ys : List α} (hs : Vec w e n enc s xs) (hx : Rd w x n enc ys) (h63 : xs.length + ys.length ≤ 9223372036854775807) (hbytes : (xs.length + ys.length) * bytes ≤ 140737488355328) {K : Sl → World → Prop}
    (hK : ∀ r w', Vec w' e n enc r (xs ++ ys) → Mod (fun k => ∃ a, s.b = some a ∧ k = a.block) w w' → (r.b = s.b ∨ ∃ a, r.b = some a ∧ w.heap.size ≤ a.block) → (r.b = none → s.b = none) → K r w') :
    appendD P t t s (.slice x.b x.l x.c) w K :=
  append_j hE henc hone hs hx h63 hbytes fun r w' h1 h2 h3 h4 _ => hK r w' h1 h2 h3 h4

theorem madeCells_flat {α : Type} (z : Array Value) (enc : α → List Value) (x : α) (hz : enc x = z.toList) (k : Nat) (hp : 0 < z.size) : (madeCells z (k * z.size)).toList = (List.replicate k x).flatMap enc := by
  apply List.ext_getElem?
  intro j
  have hl : ((List.replicate k x).flatMap enc).length = k * z.size := by
    clear hp
    induction k with
    | zero => simp
    | succ k ih => rw [List.replicate_succ, List.flatMap_cons, List.length_append, ih, hz, Array.length_toList, Nat.add_mul]; omega
  by_cases hj : j < k * z.size
  · have hm : j % z.size < z.size := Nat.mod_lt _ hp
    have h1 : (madeCells z (k * z.size)).toList[j]? = some z[j % z.size] := by
      simp [madeCells, hj, hm]
    rw [h1]
    symm
    have hn : j / z.size < k := Nat.div_lt_of_lt_mul (by rwa [Nat.mul_comm])
    have : ∀ k j, j < k * z.size → ((List.replicate k x).flatMap enc)[j]? = some (z[j % z.size]'(Nat.mod_lt _ hp)) := by
      intro k
      induction k with
      | zero => intro j h; omega
      | succ k ih =>
        intro j h
        rw [List.replicate_succ, List.flatMap_cons, hz]
        by_cases hjz : j < z.size
        · rw [List.getElem?_append_left (by simpa using hjz)]
          simp [Nat.mod_eq_of_lt hjz, hjz]
        · rw [List.getElem?_append_right (by simp; omega), Array.length_toList, ih _ (by rw [Nat.add_mul] at h; omega)]
          have : (j - z.size) % z.size = j % z.size := by rw [← Nat.mod_eq_sub_mod (by omega)]
          simp only [this]
    exact this k j hj
  · rw [List.getElem?_eq_none (by simp [madeCells]; omega), List.getElem?_eq_none (by omega)]

theorem make_i {α : Type} {P : Program} {t e : TypeId} {n bytes : Nat} {z : List Value} (hE : Elem P t e n bytes z) {enc : α → List Value} (x : α) (hx : enc x = z) (henc : ∀ x, (enc x).length = n)
    {w : World} {k k' : IntKind} {l c : Int} (h0 : 0 ≤ l) (hlc : l ≤ c) (hbytes : (bytes : Int) * c ≤ 281474976710656) (h63 : c ≤ 9223372036854775807) {K : Sl → World → Prop}
    (hK : ∀ w', Vec w' e n enc ⟨some ⟨w.heap.size, 0, none⟩, l.toNat, c.toNat⟩ (List.replicate l.toNat x) → Keep w w' → K ⟨some ⟨w.heap.size, 0, none⟩, l.toNat, c.toNat⟩ w') :
    makeSliceD P t (.int k l) (.int k' c) w K := by
  obtain ⟨i, zv, hi, hz, rfl, rfl, rfl⟩ := hE.info
  have hzs : zv.cells.size = i.size := by have := hE.zlen; simpa using this
  refine ⟨⟨some ⟨w.heap.size, 0, none⟩, l.toNat, c.toNat⟩, _, run_make (P := P) w t e i zv hE.under hi hz k k' l c h0 hlc hbytes h63, hK _ ?_ (Keep.alloc w _)⟩
  have hct : l.toNat ≤ c.toNat := by omega
  have heq : (madeCells zv.cells (c.toNat * i.size)).toList = (List.replicate l.toNat x).flatMap enc ++ (List.replicate (c.toNat - l.toNat) x).flatMap enc := by
    rw [← List.flatMap_append, List.replicate_append_replicate, show l.toNat + (c.toNat - l.toNat) = c.toNat by omega, ← hzs]
    exact madeCells_flat zv.cells enc x hx _ (by rw [hzs]; exact hE.pos)
  refine ⟨by simp, hct, by simp only [maxLen]; show c.toNat ≤ _; omega, .inr ⟨w.heap.size, (List.replicate (c.toNat - l.toNat) x).flatMap enc, rfl, ?_, ?_⟩⟩
  · rw [← heq]; exact Own.alloc' w _ e
  · rw [← heq, Array.length_toList, size_madeCells]

/-- '[]byte("..")' of a constant. -/
theorem conv_bytes_const {P : Program} {w : World} {t e : TypeId} {C : Array Value} {n c : Nat} (ht : P.underlying t = some (.slice e)) (he : P.underlying e = some (.int .u8)) {K : Sl → World → Prop}
    (hK : ∀ w', Keep w w' → w'.heap[w.heap.size]? = some (.cells C e (C.size, C.size + 1)) → K ⟨some ⟨w.heap.size, 0, none⟩, n, c⟩ w') :
    convD P (.c .slice) t t (.slice (some ⟨w.heap.size, 0, none⟩) n c) (w.alloc (.cells C e)) K :=
  ⟨⟨some ⟨w.heap.size, 0, none⟩, n, c⟩, _, Lib.run_convert_bytes_const w t e C n c ht he, hK _ (Keep.alloc w _) (heap_alloc_new w _)⟩

end Go.Den

/-
  More rules: copy, clear, append of noughts, calls of function values.
-/
namespace Go.Den
open Go

theorem callV_i {P : Program} {g : FuncId} {T : Tr} (hS : Sound P g T) (hen : enters P g = true) {first cap : Array Value} {args : List Value} {w : World} {K : Value → World → Prop} (h : T (first.toList ++ args ++ cap.toList) w K) :
    callV P (.func (.func g) first cap) args w K := by
  refine ⟨g, first, cap, rfl, hen, ?_⟩
  have := hS _ w K h
  have e : (first.toList ++ args ++ cap.toList).toArray = first ++ args.toArray ++ cap := by simp
  rwa [e] at this

/-- A row is read. -/
theorem Own.read {w : World} {g : Nat} {e : TypeId} {cs : List Value} (h : Own w g e cs) {o : Nat} {vs : List Value} (hv : ∀ j v, vs[j]? = some v → cs[o + j]? = some v) :
    ∀ j v, vs[j]? = some v → w.cell? ((⟨g, o, none⟩ : Addr).add j) = some v := by
  intro j v hj
  rw [addr_lit, h.cell]; exact hv j v hj

theorem copy_own {P : Program} {t t' e : TypeId} {n : Nat} (ht : P.underlying t = some (.slice e)) (hn : (P.info? e).map (·.size) = some n) {w : World} {g o dl dc : Nat} {a : Addr} {sl sc : Nat} {eg : TypeId} {cur cs : List Value}
    (ho : Own w g eg cur) (hl : cs.length = min sl dl * n) (hr : ∀ j v, cs[j]? = some v → w.cell? (a.add j) = some v) (hfit : o + cs.length ≤ cur.length) (h1 : ∀ v ∈ cs, v.oneCell' = true) {K : Int → World → Prop}
    (hK : ∀ w', Own w' g eg (cur.take o ++ cs ++ cur.drop (o + cs.length)) → Mod (fun k => k = g) w w' → w'.heap.size = w.heap.size → K (min sl dl : Nat) w') :
    copyD P t t' ⟨some ⟨g, o, none⟩, dl, dc⟩ (.slice (some a) sl sc) w K := by
  cases hq : P.info? e with
  | none => rw [hq] at hn; cases hn
  | some i =>
    have hi : i.size = n := by simpa [hq] using hn
    subst hi
    have hmin : Nat.min sl dl = min sl dl := rfl
    have hf := run_firstCells_some (P := P) w i.size (Nat.min sl dl) a sl sc cs hl hr
    have hst := run_storeCells_at P g o eg cs 0 cur.toArray w ho (by simpa using hfit) h1
    refine ⟨((min sl dl : Nat) : Int), _, ?_, hK _ (ho.setRow _) (Mod.setRow w g _) (by simp)⟩
    simp only [Nat.add_zero] at hst
    simp [Builtin.copy_, run_underlying ht, Builtin.lenOf, sizeOf, typeInfo, hq, hf, hst]
    rfl

theorem size_zeroC (z : Array Value) (n : Nat) : (Builtin.zeroCells z n).toList.length = n * z.size := by simp [Builtin.zeroCells]
theorem clear_own {P : Program} {t e : TypeId} {n bytes : Nat} {z : List Value} (hE : Elem P t e n bytes z) (hz1 : ∀ v ∈ z, v.oneCell' = true) {w : World} {g o l c : Nat} {eg : TypeId} {cur : List Value}
    (ho : Own w g eg cur) (hfit : o + l * n ≤ cur.length) {K : World → Prop}
    (hK : ∀ w' zs, zs.length = l * n → Own w' g eg (cur.take o ++ zs ++ cur.drop (o + l * n)) → Mod (fun k => k = g) w w' → w'.heap.size = w.heap.size → K w') :
    clearD P t (.slice (some ⟨g, o, none⟩) l c) w K := by
  obtain ⟨i, zv, hi, hz, rfl, rfl, rfl⟩ := hE.info
  have hzs : zv.cells.size = i.size := by have := hE.zlen; simpa using this
  by_cases hl : l = 0
  · subst hl
    refine ⟨(), w, ?_, hK w [] (by simp) (by simpa using ho) (Mod.refl _ _) rfl⟩
    simp [Builtin.clear_, run_underlying hE.under, encK]
  · have hlen : (Builtin.zeroCells zv.cells l).toList.length = l * i.size := by rw [size_zeroC, hzs]
    have hone : ∀ v ∈ (Builtin.zeroCells zv.cells l).toList, v.oneCell' = true := by
      intro v hv
      simp only [Builtin.zeroCells, Array.toList_map, List.mem_map] at hv
      obtain ⟨j, _, rfl⟩ := hv
      have hp : 0 < zv.cells.size := by rw [hzs]; exact hE.pos
      have hm : j % zv.cells.size < zv.cells.size := Nat.mod_lt _ hp
      rw [getElem!_pos zv.cells _ hm]
      exact hz1 _ (by simp)
    have hst := run_storeCells_at P g o eg (Builtin.zeroCells zv.cells l).toList 0 cur.toArray w ho (by rw [hlen]; simpa using hfit) hone
    rw [hlen] at hst
    refine ⟨(), _, ?_, hK _ (Builtin.zeroCells zv.cells l).toList hlen (ho.setRow _) (Mod.setRow w g _) (by simp)⟩
    simp only [Nat.add_zero] at hst
    obtain ⟨l', rfl⟩ : ∃ m, l = m + 1 := ⟨l - 1, by omega⟩
    simp [Builtin.clear_, run_underlying hE.under, zeroValue, typeInfo, hi, hz, hst, encK]

theorem zeroC_flat {α : Type} (z : Array Value) (enc : α → List Value) (x : α) (hz : enc x = z.toList) (k : Nat) (hp : 0 < z.size) : (Builtin.zeroCells z k).toList = (List.replicate k x).flatMap enc := madeCells_flat z enc x hz k hp

/-- 'append(s, make(..)...)' beyond what it has room for. -/
theorem append_zeros {α : Type} {P : Program} {t ti e : TypeId} {n bytes : Nat} {z : List Value} (hE : Elem P t e n bytes z) (hti : P.underlying ti = some (.int .i64)) {enc : α → List Value} (x : α) (hx : enc x = z) (henc : ∀ x, (enc x).length = n)
    {w : World} {s : Sl} {xs : List α} (hs : Rd w s n enc xs) {k : Nat} (hk : s.c < xs.length + k) (h63 : xs.length + k ≤ 9223372036854775807) (hbytes : (xs.length + k) * bytes ≤ 140737488355328) {K : Sl → World → Prop}
    (hK : ∀ r w', Vec w' e n enc r (xs ++ List.replicate k x) → Keep w w' → (∃ a, r.b = some a ∧ w.heap.size ≤ a.block) → K r w') : appendD P t ti s (.int .i64 (k : Int)) w K := by
  obtain ⟨i, zv, hi, hz, rfl, rfl, rfl⟩ := hE.info
  obtain ⟨sb, sl, sc⟩ := s
  have hsl : sl = xs.length := hs.len
  have hsc : sc < sl + k := by rw [hsl]; exact hk
  have hzs : zv.cells.size = i.size := by have := hE.zlen; simpa using this
  have hge := grownCap_ge w (sl + k) sc e
  have hcm : grownCap w (sl + k) sc e ≤ maxLen := grownCap_le_maxLen w (sl + k) sc e (by simp only [maxLen]; omega)
  have hold : (Builtin.firstCells i.size sl (.slice sb sl sc)).run P w.drew = .ok (xs.flatMap enc).toArray w.drew := by
    cases sb with
    | none =>
      have hx0 : xs = [] := by
        cases xs with
        | nil => rfl
        | cons y r => obtain ⟨a, ha, _⟩ := hs.get 0 y rfl; cases ha
      subst hx0
      simp [Builtin.firstCells]
    | some a => exact run_firstCells_some (P := P) w.drew i.size sl a sl sc (xs.flatMap enc) (by rw [length_flatMap_enc henc, hsl]) (fun j v hj => by simpa using firstCells_rd hs henc (a := a) rfl j v hj)
  have hnk : (Builtin.zeroCells zv.cells k).toList = (List.replicate k x).flatMap enc := zeroC_flat zv.cells enc x hx k (by rw [hzs]; exact hE.pos)
  have hkw : IntKind.i64.wrap (k : Int) = (k : Int) := w64n k (by omega)
  have hkb : ¬ (281474976710656 < (k : Int) * (i.bytes : Int)) := by
    have h1 : k * i.bytes ≤ (xs.length + k) * i.bytes := Nat.mul_le_mul_right _ (by omega)
    have h2 : ((k * i.bytes : Nat) : Int) ≤ 140737488355328 := by omega
    rw [Int.natCast_mul] at h2
    omega
  have h48 : ¬ (281474976710656 < Builtin.nextslicecap (sl + k) sc * i.bytes) := by have := growslice_fits (need := sl + k) (old := sc) (bytes := i.bytes) hsc (by rw [hsl]; exact hbytes); omega
  have hroom : ¬ (sl + k ≤ sc) := by omega
  have hpos : ¬ (k * i.size = 0) := by
    have hk0 : 0 < k := by have := hs.cap; simp only at this; omega
    have := Nat.mul_pos hk0 hE.pos
    omega
  have h63' : ¬ (9223372036854775807 < (sl : Int) + (k : Int)) := by omega
  refine ⟨(⟨some ⟨w.heap.size, 0, none⟩, sl + k, grownCap w (sl + k) sc e⟩ : Sl), w.drew.alloc (.cells ((xs.flatMap enc).toArray ++ Builtin.zeroCells zv.cells k ++ Builtin.zeroCells zv.cells (grownCap w (sl + k) sc e - (sl + k))) e), ?_, hK _ _ ⟨?_, hge, hcm, .inr ⟨w.heap.size, (Builtin.zeroCells zv.cells (grownCap w (sl + k) sc e - (sl + k))).toList, rfl, ?_, ?_⟩⟩ ((Mod.refl _ w).drew.alloc _) ⟨_, rfl, Nat.le_refl _⟩⟩
  · have hneg : ¬ ((k : Int) < 0) := by omega
    simp [Builtin.append_, run_underlying hE.under, run_underlying hti, sizeOf, typeInfo, zeroValue, hi, hz, asInt, asIntOf, hkw, hkb, hroom, h63', h48, Question.forced, hold, hneg, hpos, newRow, grownCap, Knd.enc, CK.enc]
  · simp [hsl]
  · have := Own.alloc' w.drew ((xs.flatMap enc).toArray ++ Builtin.zeroCells zv.cells k ++ Builtin.zeroCells zv.cells (grownCap w (sl + k) sc e - (sl + k))) e
    simpa [List.append_assoc, hnk] using this
  · rw [List.length_append, length_flatMap_enc henc, size_zeroC, hzs, List.length_append, List.length_replicate, ← hsl, ← Nat.add_mul]
    congr 1
    show sl + k + (grownCap w (sl + k) sc e - (sl + k)) = grownCap w (sl + k) sc e
    omega

/-! ### Parts of a slice over one's own block -/

theorem sliceAddr_zero (b : Option Addr) (c n : Nat) : sliceAddr b c 0 n = b := by
  unfold sliceAddr
  split
  · rfl
  · cases b with
    | none => rfl
    | some a => simp [Addr.add]
theorem sliceAddr_own {g c l n : Nat} (h : l < c) : sliceAddr (some ⟨g, 0, none⟩) c l n = some ⟨g, l * n, none⟩ := by
  unfold sliceAddr
  rw [if_neg (by omega)]
  simp [addr_lit]
theorem flat_take {α : Type} {enc : α → List Value} {n : Nat} (henc : ∀ x, (enc x).length = n) (xs : List α) (R : List Value) (i : Nat) (hi : i ≤ xs.length) : (xs.flatMap enc ++ R).take (i * n) = (xs.take i).flatMap enc := by
  have h1 : xs.flatMap enc = (xs.take i).flatMap enc ++ (xs.drop i).flatMap enc := by rw [← List.flatMap_append, List.take_append_drop]
  have h2 : ((xs.take i).flatMap enc).length = i * n := by rw [length_flatMap_enc henc, List.length_take, Nat.min_eq_left hi]
  rw [h1, List.append_assoc, ← h2, List.take_left]
theorem flat_drop {α : Type} {enc : α → List Value} {n : Nat} (henc : ∀ x, (enc x).length = n) (xs : List α) (R : List Value) (i : Nat) (hi : i ≤ xs.length) : (xs.flatMap enc ++ R).drop (i * n) = (xs.drop i).flatMap enc ++ R := by
  have h1 : xs.flatMap enc = (xs.take i).flatMap enc ++ (xs.drop i).flatMap enc := by rw [← List.flatMap_append, List.take_append_drop]
  have h2 : ((xs.take i).flatMap enc).length = i * n := by rw [length_flatMap_enc henc, List.length_take, Nat.min_eq_left hi]
  conv => lhs; rw [h1, List.append_assoc, ← h2, List.drop_left]
/-- Of two slices that lie apart none reaches into the other. -/
theorem overlaps_no {P : Program} {f : FuncId} {fn : Func} {t tR e : TypeId} {n : Nat} (hf : P.funcs[f]? = some fn) (hname : (fn.name == "runtime.NumGoroutine") = false) (hb : fn.body.isNone = true) (hn : Extern.findNext fn = none)
    (he : Extern.find fn = some (Extern.SlicesOverlaps.overlaps #[t, t] #[tR])) (ht : P.underlying t = some (.slice e)) (hz : (P.info? e).map (·.size) = some n) {w : World} {ga gb oa ob la ca lb cb : Nat} {ea eb : TypeId} {ca' cb' : List Value}
    (ha : Own w ga ea ca') (hb' : Own w gb eb cb') (hne : ga ≠ gb) (hpos : cb'.length ≠ 0) {K : Bool → World → Prop} (hK : K false w) :
    extD P (.c .bool) f [.slice (some ⟨ga, oa, none⟩) la ca, .slice (some ⟨gb, ob, none⟩) lb cb] w K := by
  have hsz : ∀ w, (sizeOf e).run P w = .ok n w := fun w => by
    cases hq : P.info? e with
    | none => rw [hq] at hz; cases hz
    | some i => rw [hq] at hz; cases hz; exact run_sizeOf' hq w
  refine ⟨false, w, ?_, hK⟩
  have hsa : w.shape? ga = some (ea, ca'.toArray.size) := by unfold World.shape?; rw [show w.heap[ga]? = _ from ha]
  have hsb : w.shape? gb = some (eb, cb'.toArray.size) := by unfold World.shape?; rw [show w.heap[gb]? = _ from hb']
  have fz : ∀ o, w.frozen? ⟨ga, o, none⟩ = false := fun o => by unfold World.frozen?; rw [show w.heap[ga]? = _ from ha]; simp
  rw [run_callFunc_extern hf hname hb hn he, Lib.run_overlaps_apart w t tR e ht n hsz ⟨ga, oa, none⟩ ⟨gb, ob, none⟩ la ca lb cb hne ea eb _ _ hsa hsb (by simpa using hpos) (fz _) (fz _)]
  rfl

end Go.Den

/-
  Rules for maps: what a map's block holds, told as a function.
-/
namespace Go.Den
open Go Go.MapKept

/-- Keys that can be found. -/
structure KeyOk {K : Type} (P : Program) (kt : TypeId) (ek : K → Value) : Prop where
  check : ∀ (e : Bool) (x : K) (w : World), (Instr.checkKey e 10000 kt (ek x)).run P w = .ok () w
  find : ∀ (x : K) (w : World) (l : List MapEntry) (ks : List K), l.map (·.key) = ks.map ek →
    (x ∉ ks ∧ (Instr.findKey kt (ek x) l).run P w = .ok none w) ∨ ∃ j e, ks[j]? = some x ∧ l[j]? = some e ∧ (Instr.findKey kt (ek x) l).run P w = .ok (some (j, e.val)) w
  stays : ∀ x : K, Instr.sameBits 10000 (ek x) (ek x) = true

theorem keyOk_int {P : Program} {kt : TypeId} {k : IntKind} (hd : P.underlying kt = some (.int k)) : KeyOk P kt (fun n : Int => .int k n) where
  check e x w := run_checkKey hd (by simp [IsKey]) e 9999
  find x w l ks h := by
    have hk : ∀ e ∈ l, IsKey (.int k) e.key := fun e he => by
      have : e.key ∈ ks.map (fun n : Int => Value.int k n) := h ▸ List.mem_map.2 ⟨e, he, rfl⟩
      obtain ⟨n, _, hn⟩ := List.mem_map.1 this
      rw [← hn]; simp [IsKey]
    rcases findNow_spec (d := .int k) (k := .int k x) (by simp [IsKey]) l 0 hk with ⟨h1, h2⟩ | ⟨j, e, h1, h2, h3⟩
    · refine .inl ⟨fun hx => ?_, run_findKey hd h1⟩
      have : (Value.int k x) ∈ l.map (·.key) := h ▸ List.mem_map.2 ⟨x, hx, rfl⟩
      obtain ⟨e, he, he2⟩ := List.mem_map.1 this
      exact h2 e he he2
    · rw [Nat.zero_add] at h1
      refine .inr ⟨j, e, ?_, h2, run_findKey hd h1⟩
      have : (l.map (·.key))[j]? = some (.int k x) := by rw [List.getElem?_map, h2]; simp [h3]
      rw [h, List.getElem?_map] at this
      cases hj : ks[j]? with
      | none => rw [hj] at this; cases this
      | some n => rw [hj] at this; simp at this; rw [this]
  stays x := by simp [Instr.sameBits]

theorem keyOk_two {P : Program} {kt e : TypeId} (hd : P.underlying kt = some (.array 2 e)) (he : P.underlying e = some (.int .i64)) (hs : (P.info? e).map (·.size) = some 1) : KeyOk P kt (fun p : Int × Int => .agg #[.int .i64 p.1, .int .i64 p.2]) := by
  have hsz : ∀ w, (sizeOf e).run P w = .ok 1 w := fun w => by
    cases hq : P.info? e with
    | none => rw [hq] at hs; cases hs
    | some i => rw [hq] at hs; simp at hs; rw [run_sizeOf' hq w, hs]
  have hag : ∀ w, (isAgg e).run P w = .ok false w := fun w => by simp [isAgg, run_underlying he]
  have hpart : ∀ (x y : Int) w, (part e #[.int .i64 x, .int .i64 y] 0).run P w = .ok (.int .i64 x) w ∧ (part e #[.int .i64 x, .int .i64 y] 1).run P w = .ok (.int .i64 y) w := fun x y w => by
    constructor <;> simp [part, hag]
  have heq : ∀ (p q : Int × Int) w, (Op.equal kt (.agg #[.int .i64 p.1, .int .i64 p.2]) (.agg #[.int .i64 q.1, .int .i64 q.2])).run P w = .ok (decide (p = q)) w := fun p q w => by
    obtain ⟨a, b⟩ := p
    obtain ⟨c, d⟩ := q
    have hi : ∀ (x y : Int) w, (Op.equalIn 9999 e (.int .i64 x) (.int .i64 y)).run P w = .ok (x == y) w := fun x y w => run_equalIn_int w 9998 e .i64 .i64 x y he
    have h1 := hpart a b
    have h2 := hpart c d
    unfold Op.equal Op.maxDepth Op.equalIn
    simp only [Sem.run_bind, run_underlying hd, hsz, Result.andThen_ok]
    by_cases hac : a = c
    · by_cases hbd : b = d
      · simp [hac, hbd, (hpart c d _).1, (hpart c d _).2, hi, List.range'_succ, Result.andThen]
      · simp [hac, hbd, (hpart c d _).1, (hpart c d _).2, (hpart c b _).1, (hpart c b _).2, hi, List.range'_succ, Result.andThen]
    · simp [hac, (hpart c d _).1, (hpart c d _).2, (hpart a b _).1, (hpart a b _).2, hi, List.range'_succ, Result.andThen]
  refine ⟨fun em x w => ?_, fun x w l ks h => ?_, fun x => ?_⟩
  · have hc : ∀ (n : Int) w, (Instr.checkKey em 9999 e (.int .i64 n)).run P w = .ok () w := fun n w => run_checkKey he (by simp [IsKey]) em 9998
    unfold Instr.checkKey
    simp [run_underlying hd, hsz, (hpart x.1 x.2 _).1, (hpart x.1 x.2 _).2, hc, List.range'_succ, Result.andThen]
  · have ask : ∀ (l : List MapEntry) (ks : List (Int × Int)) (i : Nat), l.map (·.key) = ks.map (fun p : Int × Int => Value.agg #[.int .i64 p.1, .int .i64 p.2]) →
        (x ∉ ks ∧ (Instr.findAsking kt (.agg #[.int .i64 x.1, .int .i64 x.2]) l i).run P w = .ok none w) ∨ ∃ j e, ks[j]? = some x ∧ l[j]? = some e ∧ (Instr.findAsking kt (.agg #[.int .i64 x.1, .int .i64 x.2]) l i).run P w = .ok (some (i + j, e.val)) w := by
      intro l
      induction l with
      | nil => intro ks i h; cases ks with
        | nil => exact .inl ⟨by simp, by simp [Instr.findAsking]⟩
        | cons => simp at h
      | cons en l ih =>
        intro ks i h
        cases ks with
        | nil => simp at h
        | cons q ks =>
          simp only [List.map_cons, List.cons.injEq] at h
          have h0 := heq x q w
          rw [← h.1] at h0
          by_cases hq : x = q
          · refine .inr ⟨0, en, by simp [hq], rfl, ?_⟩
            rw [hq] at h0
            simp [Instr.findAsking, h0, hq]
          · have hrun : (Instr.findAsking kt (.agg #[.int .i64 x.1, .int .i64 x.2]) (en :: l) i).run P w = (Instr.findAsking kt (.agg #[.int .i64 x.1, .int .i64 x.2]) l (i + 1)).run P w := by
              simp [Instr.findAsking, h0, hq]
            rcases ih ks (i + 1) h.2 with ⟨h1, h2⟩ | ⟨j, e', h1, h2, h3⟩
            · exact .inl ⟨by simp [hq, h1], by rw [hrun]; exact h2⟩
            · exact .inr ⟨j + 1, e', by simpa using h1, by simpa using h2, by rw [hrun, h3, show i + 1 + j = i + (j + 1) by omega]⟩
    have key : (Instr.findKey kt (.agg #[.int .i64 x.1, .int .i64 x.2]) l).run P w = (Instr.findAsking kt (.agg #[.int .i64 x.1, .int .i64 x.2]) l 0).run P w := by
      unfold Instr.findKey
      cases l with
      | nil => simp [run_underlying hd, Instr.findNow, Instr.findAsking]
      | cons en l =>
        have : Instr.findNow (.array 2 e) (.agg #[.int .i64 x.1, .int .i64 x.2]) (en :: l) 0 = none := by simp [Instr.findNow, Instr.sameNow]
        simp [run_underlying hd, this]
    rw [key]
    simpa using ask l ks 0 h
  · simp [Instr.sameBits]

/-! ### What a map holds -/

theorem encK_two (kn : Knd) (x : kn.T) (b : Bool) : encK [kn, .c .bool] (x, b, ()) = [kn.enc x, .bool b] := rfl
def mget {K V : Type} [DecidableEq K] : List (K × V) → K → Option V
  | [], _ => none
  | p :: r, x => if p.1 = x then some p.2 else mget r x
theorem mget_none {K V : Type} [DecidableEq K] : ∀ {l : List (K × V)} {x : K}, x ∉ l.map (·.1) → mget l x = none
  | [], _, _ => rfl
  | p :: r, x, h => by
    simp at h
    unfold mget
    rw [if_neg (fun e => h.1 e.symm), mget_none (by simpa using h.2)]
theorem mget_some {K V : Type} [DecidableEq K] : ∀ {l : List (K × V)} {x : K} {v : V} {j : Nat}, (l.map (·.1)).Nodup → l[j]? = some (x, v) → mget l x = some v
  | [], _, _, j, _, h => by simp at h
  | p :: r, x, v, 0, _, h => by simp at h; subst h; simp [mget]
  | p :: r, x, v, j + 1, hn, h => by
    simp at h hn
    unfold mget
    have : p.1 ≠ x := fun e => hn.1 v (by rw [e]; exact List.mem_of_getElem? h)
    rw [if_neg this]
    exact mget_some (by simpa using hn.2) h
theorem mget_mem {K V : Type} [DecidableEq K] : ∀ {l : List (K × V)} {x : K}, (mget l x).isSome = true ↔ x ∈ l.map (·.1)
  | [], _ => by simp [mget]
  | p :: r, x => by
    unfold mget
    by_cases h : p.1 = x
    · simp [h]
    · rw [if_neg h, mget_mem]; simp [Ne.symm h]

/-- Each entry has a stamp of its own. -/
def Born (es : Array MapEntry) (clock : Nat) : Prop := (∀ e ∈ es.toList, e.born < clock) ∧ (es.toList.map (·.born)).Nodup
/-- The map at a block, as a function. -/
def MapF {K : Type} [DecidableEq K] (w : World) (r : Nat) (ek : K → Value) (kn : Knd) (f : K → Option kn.T) (n : Nat) : Prop :=
  ∃ (es : Array MapEntry) (clock : Nat) (l : List (K × kn.T)), w.heap[r]? = some (.map es clock) ∧ es.toList.map (·.key) = l.map (fun p => ek p.1) ∧ es.toList.map (·.val) = l.map (fun p => kn.enc p.2) ∧ (l.map (·.1)).Nodup ∧ (∀ x, f x = mget l x) ∧ l.length = n ∧ Born es clock

section
variable {K : Type} [DecidableEq K] {P : Program} {w : World} {r : Nat} {ek : K → Value} {kn : Knd} {f : K → Option kn.T} {n : Nat}

theorem MapF.lt (h : MapF w r ek kn f n) : r < w.heap.size := by obtain ⟨es, c, l, h1, _⟩ := h; exact (Array.getElem?_eq_some_iff.1 h1).1
theorem MapF.mod {F : Nat → Prop} {w' : World} (h : MapF w r ek kn f n) (hm : Mod F w w') (hF : ¬ F r) : MapF w' r ek kn f n := by
  have hl := h.lt
  obtain ⟨es, c, l, h1, h2⟩ := h
  exact ⟨es, c, l, (hm.block r hl hF).trans h1, h2⟩
theorem MapF.congr {g : K → Option kn.T} {m : Nat} (h : MapF w r ek kn f n) (hg : ∀ x, g x = f x) (hm : m = n) : MapF w r ek kn g m := by
  obtain ⟨es, c, l, h1, h2, h3, h4, h5, h6, hB⟩ := h
  exact ⟨es, c, l, h1, h2, h3, h4, fun x => (hg x).trans (h5 x), h6.trans hm.symm, hB⟩
theorem MapF.keys (h : MapF w r ek kn f n) : ∃ ks : List K, ks.Nodup ∧ ks.length = n ∧ ∀ x, x ∈ ks ↔ (f x).isSome = true := by
  obtain ⟨es, c, l, h1, h2, h3, h4, h5, h6, hB⟩ := h
  exact ⟨l.map (·.1), h4, by simpa using h6, fun x => by rw [h5 x, mget_mem]⟩
theorem MapF.new (w : World) (ek : K → Value) (kn : Knd) : MapF (w.alloc (.map #[] 0)) w.heap.size ek kn (fun _ => none) 0 :=
  ⟨#[], 0, [], heap_alloc_new w _, rfl, rfl, List.nodup_nil, fun _ => rfl, rfl, by simp, List.nodup_nil⟩

theorem MapF.find {kt : TypeId} (hk : KeyOk P kt ek) (h : MapF w r ek kn f n) (x : K) (w' : World) : ∃ (es : Array MapEntry) (clock : Nat) (l : List (K × kn.T)), w.heap[r]? = some (.map es clock) ∧ es.toList.map (·.key) = l.map (fun p => ek p.1) ∧ es.toList.map (·.val) = l.map (fun p => kn.enc p.2) ∧ (l.map (·.1)).Nodup ∧ (∀ x, f x = mget l x) ∧ l.length = n ∧ Born es clock ∧
    ((x ∉ l.map (·.1) ∧ f x = none ∧ (Instr.findKey kt (ek x) es.toList).run P w' = .ok none w') ∨ ∃ j v, f x = some v ∧ l[j]? = some (x, v) ∧ j < es.size ∧ (es.toList[j]?).map (·.key) = some (ek x) ∧ (Instr.findKey kt (ek x) es.toList).run P w' = .ok (some (j, kn.enc v)) w') := by
  obtain ⟨es, c, l, h1, h2, h3, h4, h5, h6, hB⟩ := h
  refine ⟨es, c, l, h1, h2, h3, h4, h5, h6, hB, ?_⟩
  rcases hk.find x w' es.toList (l.map (·.1)) (by rw [h2, List.map_map]; rfl) with ⟨g1, g2⟩ | ⟨j, e, g1, g2, g3⟩
  · exact .inl ⟨g1, by rw [h5, mget_none g1], g2⟩
  · right
    rw [List.getElem?_map] at g1
    cases hj : l[j]? with
    | none => rw [hj] at g1; cases g1
    | some p =>
      rw [hj] at g1
      have hp : p.1 = x := by simpa using g1
      obtain ⟨y, v⟩ := p
      simp only at hp
      subst hp
      have hv : e.val = kn.enc v := by
        have : (es.toList.map (·.val))[j]? = some e.val := by rw [List.getElem?_map, g2]; rfl
        rw [h3, List.getElem?_map, hj] at this
        simpa using this.symm
      have hkey : (es.toList[j]?).map (·.key) = some (ek y) := by
        have : (es.toList.map (·.key))[j]? = some (ek y) := by rw [h2, List.getElem?_map, hj]; rfl
        rwa [List.getElem?_map] at this
      refine ⟨j, v, by rw [h5, mget_some h4 hj], hj, by simpa using (List.getElem?_eq_some_iff.1 g2).1, hkey, by rw [← hv]; exact g3⟩

theorem mapNew_i {Q : Nat → World → Prop} (hQ : MapF (w.alloc (.map #[] 0)) w.heap.size ek kn (fun _ => none) 0 → Keep w (w.alloc (.map #[] 0)) → Q w.heap.size (w.alloc (.map #[] 0))) : mapNewD w Q := hQ (MapF.new w ek kn) (Keep.alloc w _)

theorem lookup2_i {kt et : TypeId} {t : TypeId} (ht : P.underlying t = some (.map kt et)) (hk : KeyOk P kt ek) {z : kn.T} (hz : (P.info? et).map (·.zero) = some (some (kn.enc z))) (h : MapF w r ek kn f n) (x : K) {Q : kn.T → Bool → World → Prop}
    (hQ : Q ((f x).getD z) (f x).isSome w) : lookup2D P kn t (.map (some r)) (ek x) w Q := by
  obtain ⟨es, c, l, h1, h2, h3, h4, h5, h6, hB, hf⟩ := h.find hk x w
  have hzv : (zeroValue et).run P w = .ok (kn.enc z) w := by
    cases hq : P.info? et with
    | none => rw [hq] at hz; cases hz
    | some i => rw [hq] at hz; simp at hz; simp [zeroValue, typeInfo, hq, hz]
  rcases hf with ⟨_, g, hrun⟩ | ⟨j, v, g, _, _, _, hrun⟩
  · rw [g] at hQ
    exact ⟨(z, false, ()), w, by simp [Instr.lookup, run_underlying ht, MapKept.run_getObj_map h1, hk.check, hrun, hzv, encK_two], hQ⟩
  · rw [g] at hQ
    exact ⟨(v, true, ()), w, by simp [Instr.lookup, run_underlying ht, MapKept.run_getObj_map h1, hk.check, hrun, encK_two], hQ⟩
theorem lookup1_i {kt et : TypeId} {t : TypeId} (ht : P.underlying t = some (.map kt et)) (hk : KeyOk P kt ek) {z : kn.T} (hz : (P.info? et).map (·.zero) = some (some (kn.enc z))) (h : MapF w r ek kn f n) (x : K) {Q : kn.T → World → Prop}
    (hQ : Q ((f x).getD z) w) : lookup1D P kn t (.map (some r)) (ek x) w Q := by
  obtain ⟨es, c, l, h1, h2, h3, h4, h5, h6, hB, hf⟩ := h.find hk x w
  have hzv : (zeroValue et).run P w = .ok (kn.enc z) w := by
    cases hq : P.info? et with
    | none => rw [hq] at hz; cases hz
    | some i => rw [hq] at hz; simp at hz; simp [zeroValue, typeInfo, hq, hz]
  rcases hf with ⟨_, g, hrun⟩ | ⟨j, v, g, _, _, _, hrun⟩
  · rw [g] at hQ
    exact ⟨z, w, by simp [Instr.lookup, run_underlying ht, MapKept.run_getObj_map h1, hk.check, hrun, hzv], hQ⟩
  · rw [g] at hQ
    exact ⟨v, w, by simp [Instr.lookup, run_underlying ht, MapKept.run_getObj_map h1, hk.check, hrun], hQ⟩
theorem mapLen_i {kt et : TypeId} {t : TypeId} (ht : P.underlying t = some (.map kt et)) (h : MapF w r ek kn f n) {Q : Int → World → Prop} (hQ : Q (n : Int) w) : mapLenD P t (.map (some r)) w Q := by
  obtain ⟨es, c, l, h1, h2, h3, h4, h5, h6, hB⟩ := h
  have hs : es.size = n := by rw [← h6]; have := congrArg List.length h2; simpa using this
  exact ⟨(n : Int), w, by simp [Builtin.len_, run_underlying ht, MapKept.run_getObj_map h1, goInt, hs, Knd.enc, CK.enc], hQ⟩

theorem map_modify_key (es : Array MapEntry) (i : Nat) (k v : Value) (hk : (es.toList[i]?).map (·.key) = some k) : (es.modify i fun e => { e with key := k, val := v }).toList.map (·.key) = es.toList.map (·.key) := by
  apply List.ext_getElem?
  intro j
  simp only [List.getElem?_map, Array.toList_modify, List.getElem?_modify]
  by_cases hj : i = j
  · subst hj
    cases he : es.toList[i]? with
    | none => rfl
    | some e => rw [he] at hk; simp at hk; simp [hk]
  · simp [hj]
theorem map_modify_val (es : Array MapEntry) (i : Nat) (k v : Value) : (es.modify i fun e => { e with key := k, val := v }).toList.map (·.val) = (es.toList.map (·.val)).set i v := by
  apply List.ext_getElem?
  intro j
  simp only [List.getElem?_map, Array.toList_modify, List.getElem?_modify, List.getElem?_set]
  by_cases hj : i = j
  · subst hj
    by_cases hlt : i < es.toList.length
    · have h2 : i < es.size := by simpa using hlt
      simp [h2]
    · rw [List.getElem?_eq_none (by omega)]; simp at hlt; simp; omega
  · simp [hj]
theorem mget_set {V : Type} : ∀ {l : List (K × V)} {j : Nat} {x : K} {v : V}, (l.map (·.1)).Nodup → (l[j]?).map (·.1) = some x → ∀ y, mget (l.set j (x, v)) y = if y = x then some v else mget l y
  | [], j, x, v, _, h, _ => by simp at h
  | p :: r, 0, x, v, hn, h, y => by
    simp at h
    simp only [List.set_cons_zero, mget]
    by_cases hy : y = x
    · simp [hy]
    · rw [if_neg (fun e => hy e.symm), if_neg hy, h, if_neg (fun e => hy e.symm)]
  | p :: r, j + 1, x, v, hn, h, y => by
    simp only [List.getElem?_cons_succ] at h
    simp only [List.map_cons, List.nodup_cons] at hn
    simp only [List.set_cons_succ, mget]
    have hx : x ∈ r.map (·.1) := by
      cases hj : r[j]? with
      | none => rw [hj] at h; cases h
      | some q => rw [hj] at h; simp at h; rw [← h]; exact List.mem_map.2 ⟨q, List.mem_of_getElem? hj, rfl⟩
    have hpx : p.1 ≠ x := fun e => hn.1 (e ▸ hx)
    rw [mget_set hn.2 h y]
    by_cases hy : y = x
    · subst hy; simp [hpx]
    · simp [hy]
theorem mget_append {V : Type} : ∀ {l : List (K × V)} {x : K} {v : V}, x ∉ l.map (·.1) → ∀ y, mget (l ++ [(x, v)]) y = if y = x then some v else mget l y
  | [], x, v, _, y => by
    simp only [List.nil_append, mget]
    by_cases h : y = x
    · simp [h]
    · rw [if_neg (fun e => h e.symm), if_neg h]
  | p :: r, x, v, hn, y => by
    simp only [List.map_cons, List.mem_cons, not_or] at hn
    simp only [List.cons_append, mget]
    rw [mget_append hn.2 y]
    by_cases hy : y = x
    · subst hy; rw [if_neg (fun e => hn.1 e.symm)]; simp
    · simp [hy]

theorem Born.push {es : Array MapEntry} {c : Nat} (h : Born es c) (k v : Value) : Born (es.push { key := k, val := v, born := c }) (c + 1) := by
  obtain ⟨h1, h2⟩ := h
  refine ⟨fun e he => ?_, ?_⟩
  · simp only [Array.toList_push, List.mem_append, List.mem_singleton] at he
    rcases he with he | rfl
    · have := h1 e he; omega
    · exact Nat.lt_succ_self _
  · simp only [Array.toList_push, List.map_append, List.map_cons, List.map_nil]
    rw [List.nodup_append]
    refine ⟨h2, by simp, fun a ha b hb => ?_⟩
    simp at hb; subst hb
    obtain ⟨e, he, rfl⟩ := List.mem_map.1 ha
    have := h1 e he; omega
theorem born_modify (es : Array MapEntry) (i : Nat) (F : MapEntry → MapEntry) (hF : ∀ e, (F e).born = e.born) : (es.modify i F).toList.map (·.born) = es.toList.map (·.born) := by
  apply List.ext_getElem?
  intro j
  simp only [List.getElem?_map, Array.toList_modify, List.getElem?_modify]
  by_cases hj : i = j
  · subst hj; cases es.toList[i]? with
    | none => rfl
    | some e => simp [hF]
  · simp [hj]
theorem Born.modify {es : Array MapEntry} {c : Nat} (h : Born es c) (i : Nat) (F : MapEntry → MapEntry) (hF : ∀ e, (F e).born = e.born) : Born (es.modify i F) c := by
  have hb := born_modify es i F hF
  refine ⟨fun e he => ?_, by rw [hb]; exact h.2⟩
  have : e.born ∈ es.toList.map (·.born) := hb ▸ List.mem_map.2 ⟨e, he, rfl⟩
  obtain ⟨e', he', e1⟩ := List.mem_map.1 this
  rw [← e1]; exact h.1 e' he'
theorem Born.erase {es : Array MapEntry} {c : Nat} (h : Born es c) (i : Nat) : Born (es.eraseIdxIfInBounds i) c := by
  have hs : (es.eraseIdxIfInBounds i).toList.Sublist es.toList := by
    unfold Array.eraseIdxIfInBounds
    split
    · simp only [Array.toList_eraseIdx]; exact List.eraseIdx_sublist _ _
    · exact List.Sublist.refl _
  exact ⟨fun e he => h.1 e (hs.subset he), h.2.sublist (hs.map _)⟩
/-- A stamp's entry. -/
theorem Born.find {es : Array MapEntry} {c : Nat} (h : Born es c) {i : Nat} {e : MapEntry} (he : es.toList[i]? = some e) : es.findIdx? (fun x => (x.born : Int) == (e.born : Int)) = some i := by
  obtain ⟨l⟩ := es
  rw [List.findIdx?_toArray, List.findIdx?_eq_some_iff_getElem]
  have hi := (List.getElem?_eq_some_iff.1 he).1
  have hg : l[i] = e := (List.getElem?_eq_some_iff.1 he).2
  refine ⟨hi, by rw [hg]; simp, fun j hj => ?_⟩
  have hn := h.2
  simp only at hn
  have hi' : i < l.length := hi
  have hj' : j < l.length := by omega
  have hne : l[j].born ≠ l[i].born := fun e' => by
    have := List.pairwise_iff_getElem.1 hn j i (by simp; omega) (by simpa using hi) hj
    simp at this
    exact this e'
  rw [hg] at hne
  simp; omega
theorem setObj_mod (w : World) (r : Nat) (o : Obj) : Mod (fun k => k = r) w { w with heap := w.heap.setIfInBounds r o } :=
  ⟨rfl, rfl, rfl, by simp, fun k _ hk => by simp [Ne.symm hk]⟩
theorem update_i {kt et : TypeId} {t : TypeId} (ht : P.underlying t = some (.map kt et)) (hk : KeyOk P kt ek) (h : MapF w r ek kn f n) (x : K) (v : kn.T) {Q : World → Prop}
    (hQ : ∀ w', MapF w' r ek kn (fun y => if y = x then some v else f y) (if (f x).isSome then n else n + 1) → Mod (fun k => k = r) w w' → w'.heap.size = w.heap.size → Q w') : mapUpdateD P t (.map (some r)) (ek x) (kn.enc v) w Q := by
  obtain ⟨es, c, l, h1, h2, h3, h4, h5, h6, hB, hf⟩ := h.find hk x w
  rcases hf with ⟨hx, g, hrun⟩ | ⟨j, u, g, hj, hjs, hkey, hrun⟩
  · refine ⟨{ w with heap := w.heap.setIfInBounds r (.map (es.push { key := ek x, val := kn.enc v, born := c }) (c + 1)) }, by simp [Instr.mapUpdate, run_underlying ht, MapKept.run_getObj_map h1, hk.check, hrun, run_setObj_map _ h1], hQ _ ?_ (setObj_mod w r _) (by simp)⟩
    refine ⟨_, _, l ++ [(x, v)], (heap_set h1).1, by simp [h2], by simp [h3], ?_, fun y => ?_, by rw [g]; simp [h6], hB.push _ _⟩
    · rw [List.map_append, List.nodup_append]
      exact ⟨h4, by simp, fun a ha b hb => by simp at hb; subst hb; exact fun e => hx (e ▸ ha)⟩
    · show (if y = x then some v else f y) = _
      rw [mget_append hx y, h5]
  · obtain ⟨e, he⟩ : ∃ e, es.toList[j]? = some e := ⟨_, List.getElem?_eq_getElem (by simpa using hjs)⟩
    have hek : e.key = ek x := by rw [he] at hkey; simpa using hkey
    have hea : es[j]? = some e := by simpa using he
    refine ⟨{ w with heap := w.heap.setIfInBounds r (.map (es.modify j fun e => { e with key := ek x, val := kn.enc v }) c) }, by simp [Instr.mapUpdate, run_underlying ht, MapKept.run_getObj_map h1, hk.check, hrun, run_setObj_map _ h1, Instr.keyThatStays, hea, hek, hk.stays], hQ _ ?_ (setObj_mod w r _) (by simp)⟩
    refine ⟨_, _, l.set j (x, v), (heap_set h1).1, ?_, ?_, ?_, fun y => ?_, by rw [g]; simp [h6], hB.modify j (fun e => { e with key := ek x, val := kn.enc v }) fun _ => rfl⟩
    · rw [map_modify_key es j _ _ hkey, h2]
      apply List.ext_getElem?
      intro i
      simp only [List.getElem?_map, List.getElem?_set]
      by_cases hi : j = i
      · subst hi
        have hlt := (List.getElem?_eq_some_iff.1 hj).1
        rw [hj]; simp [hlt]
      · simp [hi]
    · rw [map_modify_val, h3, List.map_set]
    · have : (l.set j (x, v)).map (·.1) = l.map (·.1) := by
        apply List.ext_getElem?
        intro i
        simp only [List.getElem?_map, List.getElem?_set]
        by_cases hi : j = i
        · subst hi
          have hlt := (List.getElem?_eq_some_iff.1 hj).1
          rw [hj]; simp [hlt]
        · simp [hi]
      rw [this]; exact h4
    · show (if y = x then some v else f y) = _
      rw [mget_set h4 (by rw [hj]; rfl) y, h5]

theorem map_val_key (es : Array MapEntry) (i : Nat) (v : Value) : (es.modify i fun e => { e with val := v }).toList.map (·.key) = es.toList.map (·.key) := by
  apply List.ext_getElem?
  intro j
  simp only [List.getElem?_map, Array.toList_modify, List.getElem?_modify]
  by_cases hj : i = j
  · subst hj; cases es.toList[i]? <;> simp
  · simp [hj]
theorem map_val_val (es : Array MapEntry) (i : Nat) (v : Value) : (es.modify i fun e => { e with val := v }).toList.map (·.val) = (es.toList.map (·.val)).set i v := by
  apply List.ext_getElem?
  intro j
  simp only [List.getElem?_map, Array.toList_modify, List.getElem?_modify, List.getElem?_set]
  by_cases hj : i = j
  · subst hj
    by_cases hlt : i < es.toList.length
    · have h2 : i < es.size := by simpa using hlt
      simp [h2]
    · rw [List.getElem?_eq_none (by omega)]; simp at hlt; simp; omega
  · simp [hj]
theorem map_key_val (es : Array MapEntry) (i : Nat) (k : Value) : (es.modify i fun e => { e with key := k }).toList.map (·.val) = es.toList.map (·.val) := by
  apply List.ext_getElem?
  intro j
  simp only [List.getElem?_map, Array.toList_modify, List.getElem?_modify]
  by_cases hj : i = j
  · subst hj; cases es.toList[i]? <;> simp
  · simp [hj]
theorem map_key_key (es : Array MapEntry) (i : Nat) (k : Value) (hk : (es.toList[i]?).map (·.key) = some k) : (es.modify i fun e => { e with key := k }).toList.map (·.key) = es.toList.map (·.key) := by
  apply List.ext_getElem?
  intro j
  simp only [List.getElem?_map, Array.toList_modify, List.getElem?_modify]
  by_cases hj : i = j
  · subst hj
    cases he : es.toList[i]? with
    | none => rfl
    | some e => rw [he] at hk; simp at hk; simp [hk]
  · simp [hj]
omit [DecidableEq K] in
theorem map_fst_set {V : Type} {l : List (K × V)} {j : Nat} {x : K} {u : V} (v : V) (hj : l[j]? = some (x, u)) : (l.set j (x, v)).map (·.1) = l.map (·.1) := by
  apply List.ext_getElem?
  intro i
  simp only [List.getElem?_map, List.getElem?_set]
  by_cases hi : j = i
  · subst hi
    have hlt := (List.getElem?_eq_some_iff.1 hj).1
    rw [hj]; simp [hlt]
  · simp [hi]
/-- A value is laid at a stamp's entry. -/
theorem entryStore_i {t : TypeId} {es : Array MapEntry} {c : Nat} {l : List (K × kn.T)} (h1 : w.heap[r]? = some (.map es c)) (h2 : es.toList.map (·.key) = l.map (fun p => ek p.1)) (h3 : es.toList.map (·.val) = l.map (fun p => kn.enc p.2)) (h4 : (l.map (·.1)).Nodup) (hB : Born es c)
    {j : Nat} {x : K} {u : kn.T} {e : MapEntry} (hj : l[j]? = some (x, u)) (he : es.toList[j]? = some e) (v : kn.T) {Q : World → Prop}
    (hQ : ∀ w', MapF w' r ek kn (fun y => if y = x then some v else mget l y) l.length → Mod (fun k => k = r) w w' → w'.heap.size = w.heap.size → Q w') : entryStoreD P t (.map (some r)) (.int .i64 (e.born : Int)) (kn.enc v) w Q := by
  have hfi := hB.find he
  refine ⟨{ w with heap := w.heap.setIfInBounds r (.map (es.modify j fun e => { e with val := kn.enc v }) c) }, by simp [Instr.entryStore, MapKept.run_getObj_map h1, asInt, asIntOf, hfi, run_setObj_map _ h1], hQ _ ?_ (setObj_mod w r _) (by simp)⟩
  exact ⟨_, _, l.set j (x, v), (heap_set h1).1, by have e1 := congrArg (List.map ek) (map_fst_set v hj); rw [List.map_map, List.map_map] at e1; rw [map_val_key, h2]; exact e1.symm, by rw [map_val_val, h3, List.map_set], by rw [map_fst_set v hj]; exact h4,
    fun y => by rw [mget_set h4 (by rw [hj]; rfl) y], by simp, hB.modify j (fun e => { e with val := kn.enc v }) fun _ => rfl⟩
/-- 'm[k] op= v', or one of many that are set. -/
theorem entry_i {kt et : TypeId} {t : TypeId} (ht : P.underlying t = some (.map kt et)) (hk : KeyOk P kt ek) {z : kn.T} (hz : (P.info? et).map (·.zero) = some (some (kn.enc z))) (h : MapF w r ek kn f n) (x : K) (v : kn.T) {Q : World → Prop}
    (hQ : ∀ w', MapF w' r ek kn (fun y => if y = x then some v else f y) (if (f x).isSome then n else n + 1) → Mod (fun k => k = r) w w' → w'.heap.size = w.heap.size → Q w') :
    mapEntryD P kn t (.map (some r)) (ek x) w fun _ sl w3 => entryStoreD P t (.map (some r)) (.int .i64 sl) (kn.enc v) w3 Q := by
  obtain ⟨es, c, l, h1, h2, h3, h4, h5, h6, hB, hf⟩ := h.find hk x w
  have hzv : (zeroValue et).run P w = .ok (kn.enc z) w := by
    cases hq : P.info? et with
    | none => rw [hq] at hz; cases hz
    | some i => rw [hq] at hz; simp at hz; simp [zeroValue, typeInfo, hq, hz]
  have two : ∀ (x : kn.T) (b : Int), encK [kn, .c (.int .i64)] (x, b, ()) = [kn.enc x, .int .i64 b] := fun _ _ => rfl
  have hsz : es.size = l.length := by have := congrArg List.length h2; simpa using this
  rcases hf with ⟨hx, g, hrun⟩ | ⟨j, u, g, hj, hjs, hkey, hrun⟩
  · have hset := (heap_set (o' := .map (es.push { key := ek x, val := kn.enc z, born := c }) (c + 1)) h1).1
    refine ⟨(z, (c : Int), ()), { w with heap := w.heap.setIfInBounds r (.map (es.push { key := ek x, val := kn.enc z, born := c }) (c + 1)) }, by simp [Instr.mapEntry, run_underlying ht, MapKept.run_getObj_map h1, hk.check, hrun, hzv, run_setObj_map _ h1, two, goInt], ?_⟩
    refine entryStore_i (ek := ek) (e := { key := ek x, val := kn.enc z, born := c }) (l := l ++ [(x, z)]) (j := l.length) (x := x) (u := z) hset (by simp [h2]) (by simp [h3]) ?_ (hB.push _ _) (by simp) (by simp [hsz]) v fun w' hm' hmod hs => ?_
    · rw [List.map_append, List.nodup_append]
      exact ⟨h4, by simp, fun a ha b hb => by simp at hb; subst hb; exact fun e => hx (e ▸ ha)⟩
    · refine hQ w' (hm'.congr (fun y => ?_) (by rw [g]; simp [h6])) ((setObj_mod w r _).tr hmod) (hs.trans (by simp))
      show (if y = x then some v else f y) = if y = x then some v else mget (l ++ [(x, z)]) y
      rw [mget_append hx y, h5]
      by_cases hy : y = x <;> simp [hy]
  · obtain ⟨e, he⟩ : ∃ e, es.toList[j]? = some e := ⟨_, List.getElem?_eq_getElem (by simpa using hjs)⟩
    have hek : e.key = ek x := by rw [he] at hkey; simpa using hkey
    have hea : es[j]? = some e := by simpa using he
    have hset := (heap_set (o' := .map (es.modify j fun e => { e with key := ek x }) c) h1).1
    refine ⟨(u, (e.born : Int), ()), { w with heap := w.heap.setIfInBounds r (.map (es.modify j fun e => { e with key := ek x }) c) }, by simp [Instr.mapEntry, run_underlying ht, MapKept.run_getObj_map h1, hk.check, hrun, run_setObj_map _ h1, Instr.keyThatStays, hea, hek, hk.stays, two, goInt], ?_⟩
    refine entryStore_i (ek := ek) (es := es.modify j fun e => { e with key := ek x }) (e := { e with key := ek x }) (l := l) (j := j) (x := x) (u := u) hset (by rw [map_key_key es j _ hkey, h2]) (by rw [map_key_val, h3]) h4 (hB.modify j (fun e => { e with key := ek x }) fun _ => rfl) hj ?_ v fun w' hm' hmod hs => ?_
    · simp [List.getElem?_modify, hea]
    · refine hQ w' (hm'.congr (fun y => ?_) (by rw [g]; simp [h6])) ((setObj_mod w r _).tr hmod) (hs.trans (by simp))
      show (if y = x then some v else f y) = if y = x then some v else mget l y
      rw [h5]
theorem mget_erase {V : Type} : ∀ {l : List (K × V)} {j : Nat} {x : K}, (l.map (·.1)).Nodup → (l[j]?).map (·.1) = some x → ∀ y, mget (l.eraseIdx j) y = if y = x then none else mget l y
  | [], j, x, _, h, _ => by simp at h
  | p :: r, 0, x, hn, h, y => by
    simp at h
    simp only [List.map_cons, List.nodup_cons] at hn
    simp only [List.eraseIdx_cons_zero, mget]
    by_cases hy : y = x
    · subst hy; rw [if_pos rfl]; exact mget_none (h ▸ hn.1)
    · rw [if_neg hy, h, if_neg (fun e => hy e.symm)]
  | p :: r, j + 1, x, hn, h, y => by
    simp only [List.getElem?_cons_succ] at h
    simp only [List.map_cons, List.nodup_cons] at hn
    simp only [List.eraseIdx_cons_succ, mget]
    have hx : x ∈ r.map (·.1) := by
      cases hj : r[j]? with
      | none => rw [hj] at h; cases h
      | some q => rw [hj] at h; simp at h; rw [← h]; exact List.mem_map.2 ⟨q, List.mem_of_getElem? hj, rfl⟩
    have hpx : p.1 ≠ x := fun e => hn.1 (e ▸ hx)
    rw [mget_erase hn.2 h y]
    by_cases hy : y = x
    · subst hy; simp [hpx]
    · simp [hy]
theorem delete_i {kt et u : TypeId} {t : TypeId} (ht : P.underlying t = some (.map kt et)) (hk : KeyOk P kt ek) (h : MapF w r ek kn f n) (x : K) {Q : World → Prop}
    (hQ : ∀ w', MapF w' r ek kn (fun y => if y = x then none else f y) (if (f x).isSome then n - 1 else n) → Mod (fun k => k = r) w w' → w'.heap.size = w.heap.size → Q w') : deleteD P t u (.map (some r)) (ek x) w Q := by
  obtain ⟨es, c, l, h1, h2, h3, h4, h5, h6, hB, hf⟩ := h.find hk x w
  rcases hf with ⟨hx, g, hrun⟩ | ⟨j, v, g, hj, hjs, hkey, hrun⟩
  · refine ⟨(), { w with heap := w.heap.setIfInBounds r (.map es c) }, by simp [Builtin.delete_, run_underlying ht, MapKept.run_getObj_map h1, hk.check, hrun, run_setObj_map _ h1, encK], hQ _ ?_ (setObj_mod w r _) (by simp)⟩
    refine ⟨_, _, l, (heap_set h1).1, h2, h3, h4, fun y => ?_, by rw [g]; simp [h6], hB⟩
    show (if y = x then none else f y) = _
    by_cases hy : y = x
    · subst hy; rw [if_pos rfl, mget_none hx]
    · rw [if_neg hy, h5]
  · refine ⟨(), { w with heap := w.heap.setIfInBounds r (.map (es.eraseIdxIfInBounds j) c) }, by simp [Builtin.delete_, run_underlying ht, MapKept.run_getObj_map h1, hk.check, hrun, run_setObj_map _ h1, encK], hQ _ ?_ (setObj_mod w r _) (by simp)⟩
    have er : (es.eraseIdxIfInBounds j).toList = es.toList.eraseIdx j := by
      unfold Array.eraseIdxIfInBounds
      rw [dif_pos hjs]; simp
    have em : ∀ {A B : Type} (F : A → B) (l : List A) (i : Nat), (l.eraseIdx i).map F = (l.map F).eraseIdx i := by
      intro A B F l
      induction l with
      | nil => intro i; simp
      | cons a l ih => intro i; cases i with
        | zero => simp
        | succ i => simp [ih]
    have hlt := (List.getElem?_eq_some_iff.1 hj).1
    refine ⟨_, _, l.eraseIdx j, (heap_set h1).1, by rw [er, em, em, h2], by rw [er, em, em, h3], ?_, fun y => ?_, by rw [g]; simp [List.length_eraseIdx, hlt, h6]; omega, hB.erase j⟩
    · rw [em]; exact h4.sublist (List.eraseIdx_sublist _ _)
    · show (if y = x then none else f y) = _
      rw [mget_erase h4 (by rw [hj]; rfl) y, h5]
end
/-- A nil map has nothing. -/
theorem lookup2_nil {K : Type} {P : Program} {w : World} {ek : K → Value} {kn : Knd} {kt et : TypeId} {t : TypeId} (ht : P.underlying t = some (.map kt et)) (hk : KeyOk P kt ek) {z : kn.T} (hz : (P.info? et).map (·.zero) = some (some (kn.enc z))) (x : K) {Q : kn.T → Bool → World → Prop}
    (hQ : Q z false w) : lookup2D P kn t (.map none) (ek x) w Q := by
  have hzv : (zeroValue et).run P w = .ok (kn.enc z) w := by
    cases hq : P.info? et with
    | none => rw [hq] at hz; cases hz
    | some i => rw [hq] at hz; simp at hz; simp [zeroValue, typeInfo, hq, hz]
  have hrun : (Instr.findKey kt (ek x) []).run P w = .ok none w := by
    rcases hk.find x w [] [] rfl with ⟨_, g⟩ | ⟨j, e, g, _⟩
    · exact g
    · simp at g
  exact ⟨(z, false, ()), w, by simp [Instr.lookup, run_underlying ht, hk.check, hrun, hzv, encK_two], hQ⟩
end Go.Den

/-
  Arcs in rows: sorted rows, what is put into them, what is cut. No program in sight.
-/
namespace Go.Den
open Go

structure Arc where
  f : Int
  t : Int
  w : Int
  m : Int
  deriving DecidableEq

abbrev eArc (a : Arc) : List Value := [.int .i64 a.f, .int .i64 a.t, .int .i64 a.w, .int .i64 a.m]
abbrev tupA (a : Arc) : Int × Int × Int × Int × Unit := (a.f, a.t, a.w, a.m, ())
theorem eArc_ne (a : Arc) : eArc a ≠ [] := by simp [eArc]

/-! ### Sorted rows -/

section
variable {α : Type}

theorem pairwise_ext {r : α → α → Prop} (hirr : ∀ a, ¬ r a a) (has : ∀ a b, r a b → ¬ r b a) : ∀ {l m : List α}, l.Pairwise r → m.Pairwise r → (∀ x, x ∈ l ↔ x ∈ m) → l = m
  | [], [], _, _, _ => rfl
  | [], b :: m, _, _, h => absurd ((h b).2 (by simp)) (by simp)
  | a :: l, [], _, _, h => absurd ((h a).1 (by simp)) (by simp)
  | a :: l, b :: m, hl, hm, h => by
    rw [List.pairwise_cons] at hl hm
    have hab : a = b := by
      rcases List.mem_cons.1 ((h a).1 (by simp)) with e | e
      · exact e
      · rcases List.mem_cons.1 ((h b).2 (by simp)) with e' | e'
        · exact e'.symm
        · exact absurd (hm.1 a e) (has _ _ (hl.1 b e'))
    subst hab
    congr 1
    refine pairwise_ext hirr has hl.2 hm.2 fun x => ⟨fun hx => ?_, fun hx => ?_⟩
    · rcases List.mem_cons.1 ((h x).1 (by simp [hx])) with e | e
      · subst e; exact absurd (hl.1 x hx) (hirr x)
      · exact e
    · rcases List.mem_cons.1 ((h x).2 (by simp [hx])) with e | e
      · subst e; exact absurd (hm.1 x hx) (hirr x)
      · exact e

/-- A row that begins with those that are so. -/
theorem filter_append_not {r : α → α → Prop} {p : α → Bool} (hp : ∀ x y, r x y → p y = true → p x = true) : ∀ {l : List α}, l.Pairwise r → l.filter p ++ l.filter (fun x => !p x) = l
  | [], _ => rfl
  | a :: l, h => by
    rw [List.pairwise_cons] at h
    have ih := filter_append_not hp h.2
    cases ha : p a with
    | true => simp only [List.filter_cons, ha, Bool.not_true, if_true]; simp only [Bool.false_eq_true, if_false, List.cons_append, ih]
    | false =>
      have hn : ∀ x ∈ l, p x = false := fun x hx => by
        cases hpx : p x with
        | false => rfl
        | true => rw [hp a x (h.1 x hx) hpx] at ha; cases ha
      have h1 : l.filter p = [] := List.filter_eq_nil_iff.2 fun x hx => by rw [hn x hx]; simp
      have h2 : l.filter (fun x => !p x) = l := List.filter_eq_self.2 fun x hx => by rw [hn x hx]; rfl
      simp [List.filter_cons, ha, h1, h2]

theorem filter_split {p : α → Bool} : ∀ {l : List α} {i : Nat}, (∀ x ∈ l.take i, p x = true) → (∀ x ∈ l.drop i, p x = false) → l.filter p = l.take i ∧ l.filter (fun x => !p x) = l.drop i
  | l, 0, _, h2 => by
    simp only [List.drop_zero] at h2
    exact ⟨by simp only [List.take_zero]; exact List.filter_eq_nil_iff.2 fun x hx => by rw [h2 x hx]; simp, by simp only [List.drop_zero]; exact List.filter_eq_self.2 fun x hx => by rw [h2 x hx]; rfl⟩
  | [], i + 1, _, _ => by simp
  | a :: l, i + 1, h1, h2 => by
    simp only [List.take_succ_cons, List.drop_succ_cons] at h1 h2 ⊢
    obtain ⟨e1, e2⟩ := filter_split (l := l) (i := i) (fun x hx => h1 x (by simp [hx])) h2
    have ha := h1 a (by simp)
    simp [List.filter_cons, ha, e1, e2]

variable (k : α → Int)
/-- Rows by a key, each key once. -/
def Srt (l : List α) : Prop := l.Pairwise fun x y => k x < k y
/-- One is put into a row, in the stead of what has its key. -/
def insBy (l : List α) (a : α) : List α := l.filter (fun x => decide (k x < k a)) ++ a :: l.filter (fun x => decide (k a < k x))
/-- Where a key stands, or would. -/
structure IsLow (l : List α) (v : Int) (i : Nat) : Prop where
  le : i ≤ l.length
  lo : ∀ p x, p < i → l[p]? = some x → k x < v
  hi : ∀ p x, i ≤ p → l[p]? = some x → v ≤ k x

variable {k}
theorem Srt.get {l : List α} (h : Srt k l) {p q : Nat} {x y : α} (hpq : p < q) (hx : l[p]? = some x) (hy : l[q]? = some y) : k x < k y := by
  have := List.pairwise_iff_getElem.1 h
  have hp := (List.getElem?_eq_some_iff.1 hx)
  have hq := (List.getElem?_eq_some_iff.1 hy)
  obtain ⟨hp1, hp2⟩ := hp
  obtain ⟨hq1, hq2⟩ := hq
  have := this p q hp1 hq1 hpq
  rwa [hp2, hq2] at this

theorem IsLow.take {l : List α} {v : Int} {i : Nat} (h : IsLow k l v i) : l.take i = l.filter (fun x => decide (k x < v)) ∧ l.drop i = l.filter (fun x => decide (v ≤ k x)) := by
  have := filter_split (l := l) (i := i) (p := fun x => decide (k x < v)) (fun x hx => by
    obtain ⟨p, hp⟩ := List.mem_iff_getElem?.1 hx
    have hlt : p < i := by have := (List.getElem?_eq_some_iff.1 hp).1; simp at this; omega
    rw [List.getElem?_take_of_lt hlt] at hp
    simpa using h.lo p x hlt hp) (fun x hx => by
    obtain ⟨p, hp⟩ := List.mem_iff_getElem?.1 hx
    rw [List.getElem?_drop] at hp
    have := h.hi (i + p) x (by omega) hp
    simp; omega)
  refine ⟨this.1.symm, ?_⟩
  rw [← this.2]
  apply List.filter_congr
  intro x _
  by_cases h : k x < v <;> simp [h] <;> omega

theorem IsLow.found {l : List α} (hs : Srt k l) {v : Int} {i : Nat} (h : IsLow k l v i) {x : α} (hx : x ∈ l) (hk : k x = v) : l[i]? = some x := by
  obtain ⟨p, hp⟩ := List.mem_iff_getElem?.1 hx
  have h1 : i ≤ p := by
    apply Nat.le_of_not_lt
    intro hlt
    have := h.lo p x hlt hp
    omega
  rcases Nat.eq_or_lt_of_le h1 with e | hlt
  · rw [e]; exact hp
  · have hi : i < l.length := by have := (List.getElem?_eq_some_iff.1 hp).1; omega
    have h2 := h.hi i l[i] (Nat.le_refl _) (List.getElem?_eq_getElem hi)
    have h3 := hs.get hlt (List.getElem?_eq_getElem hi) hp
    omega

/-- Where nothing has that key. -/
theorem IsLow.ins_new {l : List α} {a : α} {i : Nat} (h : IsLow k l (k a) i) (hn : ∀ x ∈ l, k x ≠ k a) : l.take i ++ [a] ++ l.drop i = insBy k l a := by
  obtain ⟨e1, e2⟩ := h.take
  unfold insBy
  rw [e1, e2]
  simp only [List.append_assoc, List.cons_append, List.nil_append]
  congr 2
  apply List.filter_congr
  intro x hx
  have := hn x hx
  by_cases h1 : k a ≤ k x <;> by_cases h2 : k a < k x <;> simp [h1, h2] <;> omega
/-- Where one has it. -/
theorem IsLow.ins_at {l : List α} (hs : Srt k l) {a : α} {i : Nat} (h : IsLow k l (k a) i) {x : α} (hx : x ∈ l) (hk : k x = k a) : l.set i a = insBy k l a := by
  obtain ⟨e1, e2⟩ := h.take
  have hf := h.found hs hx hk
  have hi : i < l.length := (List.getElem?_eq_some_iff.1 hf).1
  unfold insBy
  rw [List.set_eq_take_append_cons_drop, if_pos hi, e1]
  congr 2
  have h3 : l.drop i = x :: l.drop (i + 1) := by
    rw [List.drop_eq_getElem_cons hi]
    congr 1
    exact (List.getElem?_eq_some_iff.1 hf).2
  have h4 : IsLow k l (k a + 1) (i + 1) := by
    refine ⟨hi, fun p y hp hy => ?_, fun p y hp hy => ?_⟩
    · rcases Nat.eq_or_lt_of_le (show p ≤ i by omega) with e | hlt
      · subst e; rw [hf] at hy; cases hy; omega
      · have := h.lo p y hlt hy; omega
    · have := hs.get (show i < p by omega) hf hy; omega
  rw [h4.take.2]
  apply List.filter_congr
  intro y _
  by_cases h1 : k a < k y <;> simp [h1] <;> omega

theorem Srt.filter {l : List α} (h : Srt k l) (p : α → Bool) : Srt k (l.filter p) := List.Pairwise.filter p h
theorem Srt.ins {l : List α} (h : Srt k l) (a : α) : Srt k (insBy k l a) := by
  unfold insBy Srt
  rw [List.pairwise_append]
  refine ⟨h.filter _, ?_, ?_⟩
  · rw [List.pairwise_cons]
    exact ⟨fun x hx => by simpa using (List.mem_filter.1 hx).2, h.filter _⟩
  · intro x hx y hy
    have h1 : k x < k a := by simpa using (List.mem_filter.1 hx).2
    rcases List.mem_cons.1 hy with e | hy
    · subst e; exact h1
    · have h2 : k a < k y := by simpa using (List.mem_filter.1 hy).2
      omega
theorem mem_insBy {l : List α} {a x : α} : x ∈ insBy k l a ↔ x = a ∨ (x ∈ l ∧ k x ≠ k a) := by
  unfold insBy
  simp only [List.mem_append, List.mem_cons, List.mem_filter, decide_eq_true_eq]
  constructor
  · rintro (⟨h1, h2⟩ | rfl | ⟨h1, h2⟩)
    · exact .inr ⟨h1, by omega⟩
    · exact .inl rfl
    · exact .inr ⟨h1, by omega⟩
  · rintro (rfl | ⟨h1, h2⟩)
    · exact .inr (.inl rfl)
    · by_cases h : k x < k a
      · exact .inl ⟨h1, h⟩
      · exact .inr (.inr ⟨h1, by omega⟩)
/-- What has a key is taken out. -/
theorem IsLow.del {l : List α} (hs : Srt k l) {v : Int} {i : Nat} (h : IsLow k l v i) {x : α} (hx : x ∈ l) (hk : k x = v) : l.take i ++ l.drop (i + 1) = l.filter (fun y => decide (k y ≠ v)) := by
  have hf := h.found hs hx hk
  have hi : i < l.length := (List.getElem?_eq_some_iff.1 hf).1
  have hsp : l.take i ++ x :: l.drop (i + 1) = l := by
    rw [← List.take_append_drop i l]
    congr 1
    · simp
    · rw [List.take_append_drop, List.drop_eq_getElem_cons hi]; congr 1; exact (List.getElem?_eq_some_iff.1 hf).2.symm
  have h1 : (l.take i).filter (fun y => decide (k y ≠ v)) = l.take i := List.filter_eq_self.2 fun y hy => by
    obtain ⟨p, hp⟩ := List.mem_iff_getElem?.1 hy
    have hlt : p < i := by have := (List.getElem?_eq_some_iff.1 hp).1; simp at this; omega
    rw [List.getElem?_take_of_lt hlt] at hp
    have := h.lo p y hlt hp
    simp; omega
  have h2 : (l.drop (i + 1)).filter (fun y => decide (k y ≠ v)) = l.drop (i + 1) := List.filter_eq_self.2 fun y hy => by
    obtain ⟨p, hp⟩ := List.mem_iff_getElem?.1 hy
    rw [List.getElem?_drop] at hp
    have := hs.get (show i < i + 1 + p by omega) hf hp
    simp; omega
  conv => rhs; rw [← hsp, List.filter_append, List.filter_cons, h1, h2]
  simp [hk]
end

/-! ### Nets -/

/-- By From, then To. -/
def lexlt (x y : Arc) : Bool := decide (x.f < y.f) || (decide (x.f = y.f) && decide (x.t < y.t))
def LSrt (l : List Arc) : Prop := l.Pairwise fun x y => lexlt x y = true
theorem lexlt_iff {x y : Arc} : lexlt x y = true ↔ x.f < y.f ∨ (x.f = y.f ∧ x.t < y.t) := by simp [lexlt]
def mayA (n : Nat) (a : Arc) : Prop := 0 ≤ a.f ∧ a.f < n ∧ 0 ≤ a.t ∧ a.t < n ∧ a.f ≠ a.t ∧ 1 ≤ a.w ∧ a.w ≤ 1099511627776 ∧ (a.m = -1 ∨ (0 ≤ a.m ∧ a.m < n ∧ a.m ≠ a.f ∧ a.m ≠ a.t))
instance (n : Nat) (a : Arc) : Decidable (mayA n a) := by unfold mayA; infer_instance
structure OkL (n : Nat) (l : List Arc) : Prop where
  srt : LSrt l
  may : ∀ a ∈ l, mayA n a
def insL (l : List Arc) (a : Arc) : List Arc := l.filter (fun x => lexlt x a) ++ a :: l.filter (fun x => lexlt a x)
def findL (l : List Arc) (f t : Int) : Option Arc := l.find? fun x => decide (x.f = f) && decide (x.t = t)
def putL (n : Nat) (l : List Arc) (a : Arc) : List Arc × Bool :=
  if mayA n a then (match findL l a.f a.t with
    | some x => if x.w ≤ a.w then (l, false) else (insL l a, true)
    | none => (insL l a, true)) else (l, false)
def cutL (l : List Arc) (v : Int) : List Arc := l.filter fun x => decide (x.f ≠ v) && decide (x.t ≠ v)
def outL (l : List Arc) (v : Int) : List Arc := l.filter fun x => decide (x.f = v)
def inL (l : List Arc) (v : Int) : List Arc := l.filter fun x => decide (x.t = v)

theorem LSrt.out {l : List Arc} (h : LSrt l) (v : Int) : Srt Arc.t (outL l v) := by
  unfold outL Srt
  refine List.Pairwise.imp_of_mem (fun {x y} hx hy hxy => ?_) (List.Pairwise.filter _ h)
  have h1 := (List.mem_filter.1 hx).2
  have h2 := (List.mem_filter.1 hy).2
  simp at h1 h2
  rcases lexlt_iff.1 hxy with h | ⟨_, h⟩
  · omega
  · exact h
theorem LSrt.inn {l : List Arc} (h : LSrt l) (v : Int) : Srt Arc.f (inL l v) := by
  unfold inL Srt
  refine List.Pairwise.imp_of_mem (fun {x y} hx hy hxy => ?_) (List.Pairwise.filter _ h)
  have h1 := (List.mem_filter.1 hx).2
  have h2 := (List.mem_filter.1 hy).2
  simp at h1 h2
  rcases lexlt_iff.1 hxy with h | ⟨_, h⟩ <;> omega
theorem mem_insL {l : List Arc} {a x : Arc} : x ∈ insL l a ↔ x = a ∨ (x ∈ l ∧ ¬ (x.f = a.f ∧ x.t = a.t)) := by
  unfold insL
  simp only [List.mem_append, List.mem_cons, List.mem_filter, lexlt_iff]
  constructor
  · rintro (⟨h1, h2⟩ | rfl | ⟨h1, h2⟩)
    · exact .inr ⟨h1, by omega⟩
    · exact .inl rfl
    · exact .inr ⟨h1, by omega⟩
  · rintro (rfl | ⟨h1, h2⟩)
    · exact .inr (.inl rfl)
    · rcases Int.lt_trichotomy x.f a.f with h | h | h
      · exact .inl ⟨h1, .inl h⟩
      · rcases Int.lt_trichotomy x.t a.t with h' | h' | h'
        · exact .inl ⟨h1, .inr ⟨h, h'⟩⟩
        · exact absurd ⟨h, h'⟩ h2
        · exact .inr (.inr ⟨h1, .inr ⟨h.symm, h'⟩⟩)
      · exact .inr (.inr ⟨h1, .inl h⟩)
theorem lexlt_trans {x y z : Arc} (h1 : lexlt x y = true) (h2 : lexlt y z = true) : lexlt x z = true := by
  rw [lexlt_iff] at *; omega
theorem LSrt.ins {l : List Arc} (h : LSrt l) (a : Arc) : LSrt (insL l a) := by
  unfold insL LSrt
  rw [List.pairwise_append]
  refine ⟨List.Pairwise.filter _ h, ?_, ?_⟩
  · rw [List.pairwise_cons]
    exact ⟨fun x hx => (List.mem_filter.1 hx).2, List.Pairwise.filter _ h⟩
  · intro x hx y hy
    have h1 := (List.mem_filter.1 hx).2
    rcases List.mem_cons.1 hy with e | hy
    · subst e; exact h1
    · exact lexlt_trans h1 (List.mem_filter.1 hy).2
theorem OkL.ins {n : Nat} {l : List Arc} (h : OkL n l) {a : Arc} (ha : mayA n a) : OkL n (insL l a) :=
  ⟨h.srt.ins a, fun x hx => by rcases mem_insL.1 hx with rfl | ⟨h1, _⟩; exact ha; exact h.may x h1⟩
theorem OkL.filter {n : Nat} {l : List Arc} (h : OkL n l) (p : Arc → Bool) : OkL n (l.filter p) := ⟨List.Pairwise.filter _ h.srt, fun x hx => h.may x (List.mem_filter.1 hx).1⟩
theorem OkL.cut {n : Nat} {l : List Arc} (h : OkL n l) (v : Int) : OkL n (cutL l v) := h.filter _
theorem OkL.nil (n : Nat) : OkL n [] := ⟨List.Pairwise.nil, by simp⟩

/-- Sorted rows with the same arcs are the same. -/
theorem LSrt.ext {l m : List Arc} (h : LSrt l) (h' : LSrt m) (he : ∀ x, x ∈ l ↔ x ∈ m) : l = m :=
  pairwise_ext (fun a h => by rw [lexlt_iff] at h; omega) (fun a b h1 h2 => by rw [lexlt_iff] at h1 h2; omega) h h' he
theorem Srt.ext {k : Arc → Int} {l m : List Arc} (h : Srt k l) (h' : Srt k m) (he : ∀ x, x ∈ l ↔ x ∈ m) : l = m :=
  pairwise_ext (fun a h => by omega) (fun a b h1 h2 => by omega) h h' he

theorem mem_outL {l : List Arc} {v : Int} {x : Arc} : x ∈ outL l v ↔ x ∈ l ∧ x.f = v := by simp [outL]
theorem mem_inL {l : List Arc} {v : Int} {x : Arc} : x ∈ inL l v ↔ x ∈ l ∧ x.t = v := by simp [inL]
theorem mem_cutL {l : List Arc} {v : Int} {x : Arc} : x ∈ cutL l v ↔ x ∈ l ∧ x.f ≠ v ∧ x.t ≠ v := by simp [cutL]
theorem outL_ins {l : List Arc} (h : LSrt l) (a : Arc) (v : Int) : outL (insL l a) v = if v = a.f then insBy Arc.t (outL l v) a else outL l v := by
  split
  · rename_i hv
    subst hv
    refine ((h.ins a).out _).ext ((h.out _).ins a) fun x => ?_
    simp only [mem_outL, mem_insL, mem_insBy]
    constructor
    · rintro ⟨rfl | ⟨h1, h2⟩, h3⟩
      · exact .inl rfl
      · exact .inr ⟨⟨h1, h3⟩, fun h => h2 ⟨h3, h⟩⟩
    · rintro (rfl | ⟨⟨h1, h2⟩, h3⟩)
      · exact ⟨.inl rfl, rfl⟩
      · exact ⟨.inr ⟨h1, fun h => h3 h.2⟩, h2⟩
  · rename_i hv
    refine ((h.ins a).out _).ext (h.out _) fun x => ?_
    simp only [mem_outL, mem_insL]
    constructor
    · rintro ⟨rfl | ⟨h1, h2⟩, h3⟩
      · exact absurd h3.symm hv
      · exact ⟨h1, h3⟩
    · rintro ⟨h1, h2⟩
      exact ⟨.inr ⟨h1, fun h => hv (by rw [← h2, h.1])⟩, h2⟩
theorem inL_ins {l : List Arc} (h : LSrt l) (a : Arc) (v : Int) : inL (insL l a) v = if v = a.t then insBy Arc.f (inL l v) a else inL l v := by
  split
  · rename_i hv
    subst hv
    refine ((h.ins a).inn _).ext ((h.inn _).ins a) fun x => ?_
    simp only [mem_inL, mem_insL, mem_insBy]
    constructor
    · rintro ⟨rfl | ⟨h1, h2⟩, h3⟩
      · exact .inl rfl
      · exact .inr ⟨⟨h1, h3⟩, fun h => h2 ⟨h, h3⟩⟩
    · rintro (rfl | ⟨⟨h1, h2⟩, h3⟩)
      · exact ⟨.inl rfl, rfl⟩
      · exact ⟨.inr ⟨h1, fun h => h3 h.1⟩, h2⟩
  · rename_i hv
    refine ((h.ins a).inn _).ext (h.inn _) fun x => ?_
    simp only [mem_inL, mem_insL]
    constructor
    · rintro ⟨rfl | ⟨h1, h2⟩, h3⟩
      · exact absurd h3.symm hv
      · exact ⟨h1, h3⟩
    · rintro ⟨h1, h2⟩
      exact ⟨.inr ⟨h1, fun h => hv (by rw [← h2, h.2])⟩, h2⟩
theorem findL_some {l : List Arc} {f t : Int} {x : Arc} (h : findL l f t = some x) : x ∈ l ∧ x.f = f ∧ x.t = t := by
  have h1 := List.find?_some h
  simp at h1
  exact ⟨List.mem_of_find?_eq_some h, h1.1, h1.2⟩
theorem findL_none {l : List Arc} {f t : Int} (h : findL l f t = none) : ∀ x ∈ l, ¬ (x.f = f ∧ x.t = t) := by
  intro x hx hk
  have := List.find?_eq_none.1 h x hx
  simp [hk] at this
theorem findL_eq {l : List Arc} (hs : LSrt l) {x : Arc} (hx : x ∈ l) : findL l x.f x.t = some x := by
  cases h : findL l x.f x.t with
  | none => exact absurd ⟨rfl, rfl⟩ (findL_none h x hx)
  | some y =>
    obtain ⟨h1, h2, h3⟩ := findL_some h
    congr 1
    have hp := List.pairwise_iff_getElem.1 hs
    obtain ⟨p, hp1, hp2⟩ := List.mem_iff_getElem.1 h1
    obtain ⟨q, hq1, hq2⟩ := List.mem_iff_getElem.1 hx
    rcases Nat.lt_trichotomy p q with hlt | heq | hlt
    · have := hp p q hp1 hq1 hlt; rw [hp2, hq2, lexlt_iff] at this; omega
    · subst heq; rw [← hp2, ← hq2]
    · have := hp q p hq1 hp1 hlt; rw [hp2, hq2, lexlt_iff] at this; omega
theorem putL_ok {n : Nat} {l : List Arc} (h : OkL n l) (a : Arc) : OkL n (putL n l a).1 := by
  unfold putL
  split
  · rename_i ha
    split
    · split
      · exact h
      · exact h.ins ha
    · exact h.ins ha
  · exact h

/-- All arcs, number by number. -/
theorem flat_outL {n : Nat} {l : List Arc} (h : OkL n l) : (List.range n).flatMap (fun v : Nat => outL l (v : Int)) = l := by
  refine LSrt.ext ?_ h.srt fun x => ?_
  · unfold LSrt
    rw [List.pairwise_flatMap]
    refine ⟨fun v _ => ?_, ?_⟩
    · exact List.Pairwise.filter _ h.srt
    · have : (List.range n).Pairwise (· < ·) := List.pairwise_lt_range
      refine List.Pairwise.imp (fun {u v} huv x hx y hy => ?_) this
      rw [mem_outL] at hx hy
      rw [lexlt_iff]
      omega
  · simp only [List.mem_flatMap, List.mem_range, mem_outL]
    constructor
    · rintro ⟨v, _, h1, _⟩; exact h1
    · intro hx
      have := h.may x hx
      unfold mayA at this
      exact ⟨x.f.toNat, by omega, hx, by omega⟩

theorem srt_len {k : Arc → Int} {l : List Arc} (h : Srt k l) {n : Nat} (hk : ∀ x ∈ l, 0 ≤ k x ∧ k x < n) : l.length ≤ n := by
  have key : ∀ (i : Nat) (x : Arc), l[i]? = some x → (i : Int) ≤ k x := by
    intro i
    induction i with
    | zero => intro x hx; exact (hk x (List.mem_of_getElem? hx)).1
    | succ i ih =>
      intro x hx
      have hi : i < l.length := by have := (List.getElem?_eq_some_iff.1 hx).1; omega
      have h1 := ih _ (List.getElem?_eq_getElem hi)
      have h2 := h.get (Nat.lt_succ_self i) (List.getElem?_eq_getElem hi) hx
      omega
  rcases Nat.eq_zero_or_pos l.length with h0 | h0
  · omega
  · have hi : l.length - 1 < l.length := by omega
    have h1 := key _ _ (List.getElem?_eq_getElem hi)
    have h2 := (hk _ (List.getElem_mem hi)).2
    omega
theorem OkL.out_len {n : Nat} {l : List Arc} (h : OkL n l) (v : Int) : (outL l v).length ≤ n := srt_len (h.srt.out v) fun x hx => by
  have := h.may x (mem_outL.1 hx).1
  exact ⟨this.2.2.1, this.2.2.2.1⟩
theorem OkL.in_len {n : Nat} {l : List Arc} (h : OkL n l) (v : Int) : (inL l v).length ≤ n := srt_len (h.srt.inn v) fun x hx => by
  have := h.may x (mem_inL.1 hx).1
  exact ⟨this.1, this.2.1⟩

def putAll (n : Nat) (l : List Arc) (xs : List Arc) : List Arc := xs.foldl (fun l a => (putL n l a).1) l
theorem putAll_ok {n : Nat} : ∀ (xs : List Arc) {l : List Arc}, OkL n l → OkL n (putAll n l xs)
  | [], _, h => h
  | a :: xs, _, h => putAll_ok xs (putL_ok h a)
theorem putAll_snoc (n : Nat) (l xs : List Arc) (a : Arc) : putAll n l (xs ++ [a]) = (putL n (putAll n l xs) a).1 := by simp [putAll]
/-- What stands sorted is put just so. -/
theorem putAll_self {n : Nat} : ∀ {xs p : List Arc}, OkL n (p ++ xs) → putAll n p xs = p ++ xs
  | [], p, _ => by simp [putAll]
  | a :: xs, p, h => by
    have hsp : LSrt (p ++ a :: xs) := h.srt
    unfold LSrt at hsp
    rw [List.pairwise_append] at hsp
    have hlt : ∀ x ∈ p, lexlt x a = true := fun x hx => hsp.2.2 x hx a (by simp)
    have hno : findL p a.f a.t = none := by
      cases hf : findL p a.f a.t with
      | none => rfl
      | some x =>
        obtain ⟨h1, h2, h3⟩ := findL_some hf
        have := hlt x h1
        rw [lexlt_iff] at this; omega
    have he : (putL n p a).1 = p ++ [a] := by
      unfold putL
      rw [if_pos (h.may a (by simp)), hno]
      unfold insL
      have e1 : p.filter (fun x => lexlt x a) = p := List.filter_eq_self.2 hlt
      have e2 : p.filter (fun x => lexlt a x) = [] := List.filter_eq_nil_iff.2 fun x hx hn => by
        have := hlt x hx
        rw [lexlt_iff] at this hn; omega
      rw [e1, e2]
    have h' : OkL n ((p ++ [a]) ++ xs) := by simpa using h
    have := putAll_self (xs := xs) (p := p ++ [a]) h'
    show putAll n (putL n p a).1 xs = _
    rw [he, this]; simp

/-- Where an arc is, or would be. -/
structure LowL (l : List Arc) (f t : Int) (i : Nat) : Prop where
  le : i ≤ l.length
  lo : ∀ p x, p < i → l[p]? = some x → x.f < f ∨ (x.f = f ∧ x.t < t)
  hi : ∀ p x, i ≤ p → l[p]? = some x → ¬ (x.f < f ∨ (x.f = f ∧ x.t < t))

theorem LSrt.get {l : List Arc} (h : LSrt l) {p q : Nat} {x y : Arc} (hpq : p < q) (hx : l[p]? = some x) (hy : l[q]? = some y) : x.f < y.f ∨ (x.f = y.f ∧ x.t < y.t) := by
  have := List.pairwise_iff_getElem.1 h
  obtain ⟨hp1, hp2⟩ := List.getElem?_eq_some_iff.1 hx
  obtain ⟨hq1, hq2⟩ := List.getElem?_eq_some_iff.1 hy
  have := this p q hp1 hq1 hpq
  rw [hp2, hq2] at this
  exact lexlt_iff.1 this


theorem LowL.found {l : List Arc} (hs : LSrt l) {f t : Int} {i : Nat} (h : LowL l f t i) {x : Arc} (hx : x ∈ l) (hf : x.f = f) (ht : x.t = t) : l[i]? = some x := by
  obtain ⟨p, hp⟩ := List.mem_iff_getElem?.1 hx
  have h2 : i ≤ p := by
    apply Nat.le_of_not_lt
    intro hlt
    have := h.lo p x hlt hp
    omega
  rcases Nat.eq_or_lt_of_le h2 with e | hlt
  · rw [e]; exact hp
  · have hjl : i < l.length := by have := (List.getElem?_eq_some_iff.1 hp).1; omega
    have h3 := h.hi i l[i] (Nat.le_refl _) (List.getElem?_eq_getElem hjl)
    have h4 := hs.get hlt (List.getElem?_eq_getElem hjl) hp
    omega
theorem LowL.split {l : List Arc} {f t : Int} {i : Nat} (h : LowL l f t i) : l.take i = l.filter (fun x => decide (x.f < f ∨ (x.f = f ∧ x.t < t))) ∧ l.drop i = l.filter (fun x => !decide (x.f < f ∨ (x.f = f ∧ x.t < t))) := by
  have := filter_split (l := l) (i := i) (p := fun x => decide (x.f < f ∨ (x.f = f ∧ x.t < t))) (fun x hx => by
    obtain ⟨p, hp⟩ := List.mem_iff_getElem?.1 hx
    have hlt : p < i := by have := (List.getElem?_eq_some_iff.1 hp).1; simp at this; omega
    rw [List.getElem?_take_of_lt hlt] at hp
    exact decide_eq_true (h.lo p x hlt hp)) (fun x hx => by
    obtain ⟨p, hp⟩ := List.mem_iff_getElem?.1 hx
    rw [List.getElem?_drop] at hp
    exact decide_eq_false (h.hi (i + p) x (by omega) hp))
  exact ⟨this.1.symm, this.2.symm⟩
theorem LowL.ins_new {l : List Arc} {a : Arc} {i : Nat} (h : LowL l a.f a.t i) (hn : ∀ x ∈ l, ¬ (x.f = a.f ∧ x.t = a.t)) : l.take i ++ [a] ++ l.drop i = insL l a := by
  unfold insL
  rw [h.split.1, h.split.2]
  simp only [List.append_assoc, List.cons_append, List.nil_append]
  congr 1
  · exact List.filter_congr fun x _ => by simp [lexlt]
  · congr 1
    refine List.filter_congr fun x hx => ?_
    have := hn x hx
    apply Bool.eq_iff_iff.2
    simp only [Bool.not_eq_true', decide_eq_false_iff_not, lexlt_iff]
    omega
theorem LowL.ins_at {l : List Arc} (hs : LSrt l) {a : Arc} {i : Nat} (h : LowL l a.f a.t i) {x : Arc} (hx : x ∈ l) (hf : x.f = a.f) (ht : x.t = a.t) : l.set i a = insL l a := by
  have hxi := h.found hs hx hf ht
  have hi : i < l.length := (List.getElem?_eq_some_iff.1 hxi).1
  have h2 : LowL l a.f (a.t + 1) (i + 1) := by
    refine ⟨hi, fun p y hp hy => ?_, fun p y hp hy => ?_⟩
    · rcases Nat.eq_or_lt_of_le (show p ≤ i by omega) with e | hlt
      · subst e; rw [hxi] at hy; cases hy; omega
      · have := h.lo p y hlt hy; omega
    · have := hs.get (show i < p by omega) hxi hy; omega
  unfold insL
  rw [List.set_eq_take_append_cons_drop, if_pos hi, h.split.1, h2.split.2]
  congr 1
  · exact List.filter_congr fun x _ => by simp [lexlt]
  · congr 1
    refine List.filter_congr fun y hy => ?_
    apply Bool.eq_iff_iff.2
    simp only [Bool.not_eq_true', decide_eq_false_iff_not, lexlt_iff]
    omega

theorem flat_len {α β : Type} (f : α → List β) (n : Nat) : ∀ l : List α, (∀ x ∈ l, (f x).length ≤ n) → (l.flatMap f).length ≤ l.length * n
  | [], _ => by simp
  | x :: l, h => by
    have := flat_len f n l fun y hy => h y (by simp [hy])
    have := h x (by simp)
    simp only [List.flatMap_cons, List.length_append, List.length_cons, Nat.add_mul]
    omega
theorem OkL.len {n : Nat} {l : List Arc} (h : OkL n l) (hn : n ≤ 512) : l.length ≤ 262144 := by
  have h1 := flat_len (fun v : Nat => outL l (v : Int)) n (List.range n) fun v _ => h.out_len v
  rw [flat_outL h, List.length_range] at h1
  have h2 : n * n ≤ 512 * 512 := Nat.mul_le_mul hn hn
  omega

end Go.Den

/-
  From what a law function computes to its row: it returns true, and of what was there nothing has turned.
-/
namespace Go.Den
open Go Go.ChangeShapes Go.WideShapes Go.ChangeAt Go.RowKit

abbrev Since (W w : World) : Prop := Mod (fun k => W.heap.size ≤ k) W w
theorem Since.keep {W w w' : World} (h : Since W w) (k : Keep w w') : Since W w' := h.trans k fun _ _ h => h.elim
theorem Since.below {W w : World} (h : Since W w) : Below W.heap.size W w := Mod.below h (Nat.le_refl _)

section
variable {H : Type} {enc : TypeId × Value → H} {P : Program}

theorem trodAll_stays (hl : laidOutB P = true) {W W' : World} {sp' : Nat → Bool} : ∀ {ts : List TypeId} {vs : List Value} {ds : List (DataW H)} {ps : List MemPlace},
    (∀ t ∈ ts, P.readableRec t = true ∧ t < P.types.size) → DataW.TrodAll enc P W 0 (fun _ => true) true ts vs ds ps → (∀ p ∈ ps, W.sameAt W' p) → (∀ p ∈ ps, sp' p.block = true) → DataW.TrodAll enc P W' 0 sp' true ts vs ds ps
  | [], [], [], _, _, h, _, _ => h
  | t :: ts, v :: vs, d :: ds, ps, ht, h, hs, hp => by
    obtain ⟨p, q, h1, h2, rfl⟩ := h
    refine ⟨p, q, WideElems.Trod_stays hl (ht t (by simp)).1 (ht t (by simp)).2 h1 (fun x hx => hs x (by simp [hx])) (fun x hx => hp x (by simp [hx])), ?_, rfl⟩
    exact trodAll_stays hl (fun u hu => ht u (by simp [hu])) h2 (fun x hx => hs x (by simp [hx])) (fun x hx => hp x (by simp [hx]))
  | [], _ :: _, _, _, _, h, _, _ => h.elim
  | [], [], _ :: _, _, _, h, _, _ => h.elim
  | _ :: _, [], _, _, _, h, _, _ => h.elim
  | _ :: _, _ :: _, [], _, _, h, _, _ => h.elim

theorem trodAll_length {W : World} {base : Nat} {sp : Nat → Bool} {hd : Bool} : ∀ {ts : List TypeId} {vs : List Value} {ds : List (DataW H)} {ps : List MemPlace}, DataW.TrodAll enc P W base sp hd ts vs ds ps → ds.length = ts.length ∧ vs.length = ts.length
  | [], [], [], _, _ => ⟨rfl, rfl⟩
  | _ :: _, _ :: _, _ :: _, _, h => by obtain ⟨_, _, _, h2, _⟩ := h; have := trodAll_length h2; simp [this.1, this.2]
  | [], _ :: _, _, _, h => h.elim
  | [], [], _ :: _, _, h => h.elim
  | _ :: _, [], _, _, h => h.elim
  | _ :: _, _ :: _, [], _, h => h.elim

/-- The row's close: true, and all as before. -/
theorem law_post {fn : Func} {s : ChangeSpec} {apart fresh handsOn again : Bool} {W W' : World} {args : Array Value} {ds gs : List (DataW H)} {before : List MemPlace} {tb : TypeId}
    (hW : DataW.Whole enc P fn.params.toList s.vars apart W args.toList ds gs before) (hv : s.vars = [])
    (hfn : ∀ ds : List (DataW H), ds.length = fn.params.size → s.fn H ds = { results := [.lit (.bool true)], args := ds })
    (hrt : fn.resultTypes = #[tb]) (htb : P.underlying tb = some .bool) (hl : laidOutB P = true) (hread : ∀ t ∈ fn.params.toList, P.readableRec t = true ∧ t < P.types.size) (hS : Since W W') :
    s.post enc P fn apart fresh handsOn again W args (.bool true) W' := by
  have hlt := hW.lt
  obtain ⟨p, q, hA, hV, rfl, hz, hn⟩ := hW
  have hW0 : DataW.Whole enc P fn.params.toList s.vars apart W args.toList ds gs (p ++ q) := ⟨p, q, hA, hV, rfl, hz, hn⟩
  have hV' : DataW.TrodVars enc P W (fun _ => true) [] gs q := by rw [← hv]; exact hV
  obtain ⟨rfl, rfl⟩ := trodVars_none hV'
  have hds : (ds ++ []).length = fn.params.size := by rw [List.append_nil, (trodAll_length hA).1]; simp
  have hF := hfn (ds ++ []) hds
  have hb := hS.below
  have hsame : ∀ x ∈ p, W.sameAt W' x := fun x hx => hb.same (hlt x (by simp [hx]))
  have hargs : ∀ sp : Nat → Bool, (∀ x ∈ p, sp x.block = true) → DataW.TrodAll enc P W' 0 sp true fn.params.toList args.toList ds p := fun sp hsp => trodAll_stays hl hread hA hsame hsp
  have hres : ∀ (b : Nat) (sp : Nat → Bool) (hd : Bool), DataW.TrodAll enc P W' b sp hd fn.resultTypes.toList ((Value.bool true).resultList fn.resultTypes.size) [.lit (.bool true)] [] := by
    intro b sp hd
    rw [hrt]
    exact trodAll_mk1 (shut_bool htb true)
  refine ⟨ds, [], p ++ [], [], p, [], hW0, ?_, ?_, ?_, ?_, ?_⟩
  · rw [hF]; exact hres _ _ _
  · rw [hF]; simp only [List.append_nil]; exact hargs _ (fun x hx => by simpa using hlt x (by simp [hx]))
  · rw [hF, hv]; exact rfl
  · exact hb.frame _
  · intro _
    refine ⟨ok_one hrt rfl (okWide_bool_mk htb true), [.lit (.bool true)] ++ ds, [], [] ++ p ++ [], ⟨[] ++ p, [], trodAll_append (hargs _ fun _ _ => rfl) (hres _ _ _), ?_, rfl, ?_, ?_⟩, ?_⟩
    · rw [hv]; exact rfl
    · intro b off hp
      simp only [List.nil_append, List.append_nil] at hp
      have h1 := hlt (.cell b off) (by simp [hp])
      rw [hb.frozen (p := ⟨b, off, none⟩) h1]
      exact hz b off (by simpa using hp)
    · intro ha
      simpa using hn ha
    · intro x hx _
      simpa using hx
end

/-- A law of a program that runs in one step: the contract is what its function computes. -/
theorem law_lifted {C : Checked} {os : Os} {f : FuncId} {fn : Func} {s : ChangeSpec} {conds : List PathCond} {apart fresh handsOn again : Bool} {tb : TypeId} {H : Type} {enc : TypeId × Value → H}
    (own : ownKnob C.prog.godebug = none) (started : os.Started) (noInit : C.prog.inits.idxOf? f = none) (hfn : C.prog.funcs[f]? = some fn)
    (witness : ∃ (w : World) (tape : Tape) (i : Input), w.os = os ∧ (w.forCall tape i).Shaped C.prog ∧ i.vars = [] ∧ Input.okWide C.prog (w.forCall tape i) .any w.heap.size f i ∧
      s.pre6 enc C.prog fn conds apart (w.forCall tape i).memory i.args ∧ Assume.holds {} C.prog (lone (Frame.enter C.prog f i.args .normal) [] (w.forCall tape i)))
    (hv : s.vars = []) (hs : ∀ ds : List (DataW H), ds.length = fn.params.size → s.fn H ds = { results := [.lit (.bool true)], args := ds })
    (hrt : fn.resultTypes = #[tb]) (htb : C.prog.underlying tb = some .bool) (hl : laidOutB C.prog = true) (hread : ∀ t ∈ fn.params.toList, C.prog.readableRec t = true ∧ t < C.prog.types.size)
    (contract : ∀ (W : World) (base : Nat) (args : Array Value) (ds : List (DataW H)) (ps : List MemPlace),
      (∀ (j : Nat) t v, fn.params[j]? = some t → args[j]? = some v → Value.okWide C.prog W .any base t v) →
      DataW.TrodAll enc C.prog W 0 (fun _ => true) true fn.params.toList args.toList ds ps →
      Calls C.prog f args W fun e W' => e = .returned (.bool true) ∧ Since W W') :
    ReturnsInHanded {} C os f .any (s.pre6 enc C.prog fn conds apart) (s.post enc C.prog fn apart fresh handsOn again) := by
  refine returnsInHanded_of_change own started noInit hfn witness ?_
  intro W base args ds gs before hval hW _ _
  obtain ⟨p, q, hA, _⟩ := id hW
  exact (contract W base args ds p hval hA).mono fun e W' ⟨he, hS⟩ => ⟨_, he, law_post hW hv hs hrt htb hl hread hS⟩

/-! ### Arguments -/

section
variable {H : Type} {enc : TypeId × Value → H} {P : Program} {W : World}

/-- A slice of whole numbers. -/
theorem arg_ints {t e : TypeId} {k : IntKind} {base : Nat} {v : Value} {d : DataW H} {ps : List MemPlace} (ht : P.underlying t = some (.slice e)) (he : P.underlying e = some (.int k)) (hc : P.cellsOf e = 1)
    (hval : Value.okWide P W .any base t v) (h : DataW.Trod enc P W 0 (fun _ => true) true t v d ps) :
    ∃ (s : Sl) (zs : List Int), v = .slice s.b s.l s.c ∧ Rd W s 1 (fun n => [Value.int k n]) zs ∧ (∀ n ∈ zs, (Lit.int k n).wf = true) ∧ s.c ≤ maxLen := by
  obtain ⟨a1, len, cap, rfl⟩ := okWide_slice ht hval
  obtain ⟨fuel, hf⟩ := h
  rcases open_ints ht he hc hf with ⟨hcs, hx⟩ | ⟨a, len', cap', zs, hcs, _, hl, hm, hz, hx, hcell, hwz⟩
  · simp [Value.cells] at hcs
    obtain ⟨rfl, rfl, rfl⟩ := hcs
    exact ⟨⟨none, 0, 0⟩, [], rfl, Rd.nil _ _ _, by simp, by simp [maxLen]⟩
  · simp [Value.cells] at hcs
    obtain ⟨rfl, rfl, rfl⟩ := hcs
    have hz' : zs.length = cap := by simpa using hz
    refine ⟨⟨some a, len, cap⟩, zs.take len, rfl, ⟨by simp; omega, hl, fun i x hi => ⟨a, rfl, ?_⟩⟩, fun n hn => hwz n (List.mem_of_mem_take hn), hm⟩
    have hlt : i < (zs.take len).length := (List.getElem?_eq_some_iff.1 hi).1
    have hlt' : i < len ∧ i < zs.length := by simp at hlt; omega
    have hx : zs[i]? = some x := by rw [← hi, List.getElem?_take_of_lt hlt'.1]
    refine ⟨?_, trivial⟩
    rw [add_add, Nat.mul_one, Nat.add_zero, hcell i hlt'.2]
    simp [List.getD, hx]
/-- An array of three whole numbers. -/
theorem arg_three {t e : TypeId} {k : IntKind} {base : Nat} {v : Value} {d : DataW H} {ps : List MemPlace} (ht : P.underlying t = some (.array 3 e)) (he : P.underlying e = some (.int k)) (hc : P.cellsOf e = 1) (hct : P.cellsOf t = 3)
    (hval : Value.okWide P W .any base t v) (h : DataW.Trod enc P W 0 (fun _ => true) true t v d ps) :
    ∃ x y z : Int, v = .agg #[.int k x, .int k y, .int k z] ∧ (Lit.int k x).wf = true ∧ (Lit.int k y).wf = true ∧ (Lit.int k z).wf = true := by
  have hcs : ∃ cs, v = .agg cs ∧ cs.size = 3 := by
    simp only [Value.okWide, ht] at hval
    obtain ⟨cs, h1, h2, _⟩ := hval
    exact ⟨cs, h1, h2.trans hct⟩
  obtain ⟨cs, rfl, hs⟩ := hcs
  obtain ⟨c0, c1, c2, rfl⟩ : ∃ c0 c1 c2, cs = #[c0, c1, c2] := by
    obtain ⟨l⟩ := cs
    match l, hs with
    | [a, b, c], _ => exact ⟨a, b, c, rfl⟩
  obtain ⟨fuel, hf⟩ := h
  obtain ⟨y0, y1, y2, n, _, h0, h1, h2⟩ := trod_array3 ht hc hf
  obtain ⟨x, e0, _, w0⟩ := DataW.trod_int he h0
  obtain ⟨y, e1, _, w1⟩ := DataW.trod_int he h1
  obtain ⟨z, e2, _, w2⟩ := DataW.trod_int he h2
  simp at e0 e1 e2
  exact ⟨x, y, z, by rw [e0, e1, e2], w0, w1, w2⟩

end

/-! ### Bytes as a string -/

theorem toList_loop (b : ByteArray) : ∀ (n i : Nat) (r : List UInt8), b.size - i = n → i ≤ b.size → ByteArray.toList.loop b i r = r.reverse ++ b.data.toList.drop i := by
  intro n
  induction n with
  | zero =>
    intro i r h hi
    unfold ByteArray.toList.loop
    rw [if_neg (by omega), List.drop_of_length_le (by rw [Array.length_toList]; show b.size ≤ i; omega), List.append_nil]
  | succ n ih =>
    intro i r h hi
    unfold ByteArray.toList.loop
    have hlt : i < b.size := by omega
    rw [if_pos hlt, ih (i + 1) _ (by omega) (by omega)]
    have hlt' : i < b.data.toList.length := by rw [Array.length_toList]; exact hlt
    rw [List.drop_eq_getElem_cons hlt']
    have : b.get! i = b.data.toList[i] := by
      have h3 : i < b.data.size := hlt
      simp only [ByteArray.get!, Array.getElem_toList]
      exact getElem!_pos b.data i h3
    simp [this]
theorem toList_data (b : ByteArray) : b.toList = b.data.toList := by
  unfold ByteArray.toList
  rw [toList_loop b b.size 0 [] rfl (by omega)]; simp

end Go.Den

/-
  The sum by which bytes are checked, as a law of rows of bits: linear, keeps the parity, loses nothing of four bytes. No program in sight.
-/
namespace Go.Den
open Go

def poly : BitVec 32 := 2197175160#32
/-- One step. -/
def stepB (c : BitVec 32) : BitVec 32 := (c >>> 1) ^^^ (if c.getLsbD 0 then poly else 0#32)
def steps : Nat → BitVec 32 → BitVec 32
  | 0, c => c
  | n + 1, c => steps n (stepB c)
def stepBy (c : BitVec 32) (b : BitVec 8) : BitVec 32 := steps 8 (c ^^^ b.setWidth 32)
def crcOf (c : BitVec 32) (l : List (BitVec 8)) : BitVec 32 := l.foldl stepBy c
def sumOf (l : List (BitVec 8)) : BitVec 32 := ~~~ crcOf (BitVec.allOnes 32) l

theorem crcOf_append (c : BitVec 32) (l m : List (BitVec 8)) : crcOf c (l ++ m) = crcOf (crcOf c l) m := List.foldl_append ..
theorem crcOf_cons (c : BitVec 32) (b : BitVec 8) (l : List (BitVec 8)) : crcOf c (b :: l) = crcOf (stepBy c b) l := rfl
theorem crcOf_snoc (c : BitVec 32) (l : List (BitVec 8)) (b : BitVec 8) : crcOf c (l ++ [b]) = stepBy (crcOf c l) b := by simp [crcOf]
theorem steps_succ' : ∀ (n : Nat) (c : BitVec 32), steps (n + 1) c = stepB (steps n c)
  | 0, _ => rfl
  | n + 1, c => by rw [steps, steps_succ' n]; rfl
theorem steps_add (m n : Nat) (c : BitVec 32) : steps (m + n) c = steps m (steps n c) := by
  induction m with
  | zero => simp [steps]
  | succ m ih => rw [show m + 1 + n = (m + n) + 1 by omega, steps_succ', steps_succ', ih]

/-! ### Linear -/

theorem stepB_xor (x y : BitVec 32) : stepB (x ^^^ y) = stepB x ^^^ stepB y := by
  unfold stepB
  rw [BitVec.ushiftRight_xor_distrib, BitVec.getLsbD_xor]
  cases hx : x.getLsbD 0 <;> cases hy : y.getLsbD 0 <;> simp
  · rw [BitVec.xor_assoc]
  · rw [BitVec.xor_assoc, BitVec.xor_assoc]; congr 1; rw [BitVec.xor_comm]
  · rw [show x >>> 1 ^^^ poly ^^^ (y >>> 1 ^^^ poly) = x >>> 1 ^^^ y >>> 1 ^^^ (poly ^^^ poly) by ac_rfl]
    simp
theorem steps_xor : ∀ (n : Nat) (x y : BitVec 32), steps n (x ^^^ y) = steps n x ^^^ steps n y
  | 0, _, _ => rfl
  | n + 1, x, y => by rw [steps, stepB_xor, steps_xor n]; rfl
theorem stepBy_xor (x y : BitVec 32) (a b : BitVec 8) : stepBy (x ^^^ y) (a ^^^ b) = stepBy x a ^^^ stepBy y b := by
  unfold stepBy
  rw [← steps_xor, BitVec.setWidth_xor]
  congr 1
  ac_rfl
theorem crcOf_xor : ∀ (l m : List (BitVec 8)) (x y : BitVec 32), l.length = m.length → crcOf (x ^^^ y) (List.zipWith (· ^^^ ·) l m) = crcOf x l ^^^ crcOf y m
  | [], [], _, _, _ => rfl
  | a :: l, b :: m, x, y, h => by
    simp only [List.zipWith_cons_cons, crcOf_cons, stepBy_xor]
    exact crcOf_xor l m _ _ (by simpa using h)
theorem zip_zero : ∀ l : List (BitVec 8), List.zipWith (· ^^^ ·) l (List.replicate l.length 0#8) = l
  | [] => rfl
  | a :: l => by simp [List.replicate_succ, zip_zero l]

/-- Of two rows as long as each other. -/
theorem sumOf_xor (a b : List (BitVec 8)) (h : a.length = b.length) :
    sumOf (List.zipWith (· ^^^ ·) a b) = sumOf a ^^^ sumOf b ^^^ sumOf (List.replicate a.length 0#8) := by
  have h1 := crcOf_xor (List.zipWith (· ^^^ ·) a b) (List.replicate a.length 0#8) (BitVec.allOnes 32 ^^^ BitVec.allOnes 32) (BitVec.allOnes 32) (by simp [h])
  have h2 := crcOf_xor a b (BitVec.allOnes 32) (BitVec.allOnes 32) h
  have hz : List.zipWith (· ^^^ ·) (List.zipWith (· ^^^ ·) a b) (List.replicate a.length 0#8) = List.zipWith (· ^^^ ·) a b := by
    have := zip_zero (List.zipWith (· ^^^ ·) a b)
    rwa [show (List.zipWith (· ^^^ ·) a b).length = a.length by simp [h]] at this
  rw [hz] at h1
  have h3 : (BitVec.allOnes 32 ^^^ BitVec.allOnes 32 ^^^ BitVec.allOnes 32) = BitVec.allOnes 32 := by decide
  rw [h3] at h1
  unfold sumOf
  rw [h1, h2]
  generalize crcOf (BitVec.allOnes 32) a = x
  generalize crcOf (BitVec.allOnes 32) b = y
  generalize crcOf (BitVec.allOnes 32) (List.replicate a.length 0#8) = z
  ext i
  simp

/-! ### Parity -/

def parN : Nat → (Nat → Bool) → Bool
  | 0, _ => false
  | n + 1, f => xor (parN n f) (f n)
def par {w : Nat} (x : BitVec w) : Bool := parN w x.getLsbD
theorem parN_xor (f g : Nat → Bool) : ∀ n, parN n (fun i => xor (f i) (g i)) = xor (parN n f) (parN n g)
  | 0 => rfl
  | n + 1 => by simp only [parN, parN_xor f g n]; cases parN n f <;> cases parN n g <;> cases f n <;> cases g n <;> rfl
theorem parN_congr {f g : Nat → Bool} : ∀ {n}, (∀ i, i < n → f i = g i) → parN n f = parN n g
  | 0, _ => rfl
  | n + 1, h => by simp only [parN]; rw [parN_congr fun i hi => h i (by omega), h n (by omega)]
theorem par_xor {w : Nat} (x y : BitVec w) : par (x ^^^ y) = xor (par x) (par y) := by
  unfold par
  rw [← parN_xor]
  exact parN_congr fun i _ => BitVec.getLsbD_xor
theorem parN_shift (f : Nat → Bool) : ∀ n, parN (n + 1) f = xor (f 0) (parN n fun i => f (i + 1))
  | 0 => by simp [parN]
  | n + 1 => by rw [parN, parN_shift f n, parN]; cases f 0 <;> cases (parN n fun i => f (i + 1)) <;> cases f (n + 1) <;> rfl
theorem par_shift (c : BitVec 32) : par (c >>> 1) = xor (par c) (c.getLsbD 0) := by
  unfold par
  have h1 : parN 32 (c >>> 1).getLsbD = parN 31 (fun i => c.getLsbD (i + 1)) := by
    show xor (parN 31 (c >>> 1).getLsbD) ((c >>> 1).getLsbD 31) = _
    have : (c >>> 1).getLsbD 31 = false := by rw [BitVec.getLsbD_ushiftRight]; exact BitVec.getLsbD_of_ge _ _ (by omega)
    rw [this, Bool.xor_false]
    exact parN_congr fun i _ => by rw [BitVec.getLsbD_ushiftRight, Nat.add_comm]
  rw [h1, show parN 32 c.getLsbD = _ from parN_shift c.getLsbD 31]
  cases c.getLsbD 0 <;> cases (parN 31 fun i => c.getLsbD (i + 1)) <;> rfl
theorem par_poly : par poly = true := by decide
theorem par_stepB (c : BitVec 32) : par (stepB c) = par c := by
  unfold stepB
  rw [par_xor, par_shift]
  cases c.getLsbD 0 <;> simp [par_poly, show par 0#32 = false by decide]
theorem par_steps : ∀ (n : Nat) (c : BitVec 32), par (steps n c) = par c
  | 0, _ => rfl
  | n + 1, c => by rw [steps, par_steps n, par_stepB]
theorem par_widen (b : BitVec 8) : par (b.setWidth 32) = par b := by
  unfold par
  have : ∀ n, parN (8 + n) (b.setWidth 32).getLsbD = parN 8 b.getLsbD := by
    intro n
    induction n with
    | zero => exact parN_congr fun i hi => by simp; omega
    | succ n ih =>
      rw [show 8 + (n + 1) = (8 + n) + 1 by omega, parN, ih]
      have : (b.setWidth 32).getLsbD (8 + n) = false := by simp
      rw [this, Bool.xor_false]
  exact this 24
def parL (l : List (BitVec 8)) : Bool := l.foldr (fun b p => xor (par b) p) false
theorem par_crcOf : ∀ (l : List (BitVec 8)) (c : BitVec 32), par (crcOf c l) = xor (par c) (parL l)
  | [], c => by simp [crcOf, parL]
  | b :: l, c => by
    rw [crcOf_cons, par_crcOf l, stepBy, par_steps, par_xor, par_widen]
    simp only [parL, List.foldr_cons]
    cases par c <;> cases par b <;> simp
/-- Rows of bytes of unlike parity have unlike sums. -/
theorem sumOf_parity {a b : List (BitVec 8)} (h : parL a ≠ parL b) : sumOf a ≠ sumOf b := by
  intro he
  have h1 : crcOf (BitVec.allOnes 32) a = crcOf (BitVec.allOnes 32) b := by
    have := congrArg (fun x => ~~~ x) he
    simpa [sumOf] using this
  have h2 := par_crcOf a (BitVec.allOnes 32)
  rw [h1, par_crcOf b] at h2
  apply h
  revert h2
  cases par (BitVec.allOnes 32) <;> cases parL a <;> cases parL b <;> simp

/-! ### Nothing is lost -/

theorem stepB_inj {x y : BitVec 32} (h : stepB x = stepB y) : x = y := by
  have hz : ∀ z : BitVec 32, stepB z = 0#32 → z = 0#32 := by
    intro z hz
    have h31 : (stepB z).getLsbD 31 = z.getLsbD 0 := by
      unfold stepB
      rw [BitVec.getLsbD_xor, BitVec.getLsbD_ushiftRight, BitVec.getLsbD_of_ge _ _ (by omega)]
      cases z.getLsbD 0 <;> simp <;> decide
    rw [hz] at h31
    have h0 : z.getLsbD 0 = false := by rw [← h31]; simp
    unfold stepB at hz
    rw [h0] at hz
    simp at hz
    apply BitVec.eq_of_getLsbD_eq
    intro i hi
    cases i with
    | zero => rw [h0]; simp
    | succ i =>
      have : (z >>> 1).getLsbD i = (0#32).getLsbD i := by rw [hz]
      rw [BitVec.getLsbD_ushiftRight, Nat.add_comm] at this
      rw [this]; simp
  have h1 : stepB (x ^^^ y) = 0#32 := by rw [stepB_xor, h]; simp
  have h2 := hz _ h1
  exact BitVec.xor_eq_zero_iff.1 h2
theorem steps_inj : ∀ {n : Nat} {x y : BitVec 32}, steps n x = steps n y → x = y
  | 0, _, _, h => h
  | n + 1, _, _, h => stepB_inj (steps_inj (n := n) h)
theorem stepB_low {c : BitVec 32} (h : c.getLsbD 0 = false) : stepB c = c >>> 1 := by unfold stepB; rw [h]; simp
theorem steps_shift (b : BitVec 32) : ∀ n, (∀ i, i < n → b.getLsbD i = false) → steps n b = b >>> n
  | 0, _ => by simp [steps]
  | n + 1, h => by
    rw [steps_succ', steps_shift b n fun i hi => h i (by omega), stepB_low, BitVec.shiftRight_add]
    rw [BitVec.getLsbD_ushiftRight]; exact h n (by omega)
/-- Four bytes at once. -/
theorem crcOf_four (c : BitVec 32) (a b d e : BitVec 8) :
    crcOf c [a, b, d, e] = steps 32 (c ^^^ (a.setWidth 32 ^^^ (b.setWidth 32 <<< 8) ^^^ (d.setWidth 32 <<< 16) ^^^ (e.setWidth 32 <<< 24))) := by
  have key : ∀ (k : Nat) (x : BitVec 8), k ≤ 24 → steps k (x.setWidth 32 <<< k) = x.setWidth 32 := by
    intro k x hk
    rw [steps_shift _ _ fun i hi => by simp; omega]
    apply BitVec.eq_of_getLsbD_eq
    intro i hi
    simp only [BitVec.getLsbD_ushiftRight, BitVec.getLsbD_shiftLeft, BitVec.getLsbD_setWidth]
    by_cases h : k + i < 32
    · simp [h, hi]
    · have : x.getLsbD i = false := BitVec.getLsbD_of_ge _ _ (by omega)
      simp [h, this]
  have e1 : steps 32 (c ^^^ (a.setWidth 32 ^^^ (b.setWidth 32 <<< 8) ^^^ (d.setWidth 32 <<< 16) ^^^ (e.setWidth 32 <<< 24))) =
      steps 32 (c ^^^ a.setWidth 32) ^^^ steps 24 (b.setWidth 32) ^^^ steps 16 (d.setWidth 32) ^^^ steps 8 (e.setWidth 32) := by
    have hb : steps 32 (b.setWidth 32 <<< 8) = steps 24 (b.setWidth 32) := (steps_add 24 8 _).trans (by rw [key 8 b (by omega)])
    have hd : steps 32 (d.setWidth 32 <<< 16) = steps 16 (d.setWidth 32) := (steps_add 16 16 _).trans (by rw [key 16 d (by omega)])
    have he : steps 32 (e.setWidth 32 <<< 24) = steps 8 (e.setWidth 32) := (steps_add 8 24 _).trans (by rw [key 24 e (by omega)])
    rw [← hb, ← hd, ← he, ← steps_xor, ← steps_xor, ← steps_xor]
    have assoc : ∀ p q r s t : BitVec 32, p ^^^ (q ^^^ r ^^^ s ^^^ t) = p ^^^ q ^^^ r ^^^ s ^^^ t := fun p q r s t => by ac_rfl
    exact congrArg (steps 32) (assoc _ _ _ _ _)
  rw [e1]
  show steps 8 (steps 8 (steps 8 (steps 8 (c ^^^ a.setWidth 32) ^^^ b.setWidth 32) ^^^ d.setWidth 32) ^^^ e.setWidth 32) = _
  generalize c ^^^ a.setWidth 32 = u
  generalize b.setWidth 32 = v
  generalize d.setWidth 32 = x
  generalize e.setWidth 32 = y
  have u1 : steps 32 u = steps 8 (steps 24 u) := steps_add 8 24 u
  have u2 : steps 24 u = steps 8 (steps 16 u) := steps_add 8 16 u
  have u3 : steps 16 u = steps 8 (steps 8 u) := steps_add 8 8 u
  have v1 : steps 24 v = steps 8 (steps 16 v) := steps_add 8 16 v
  have v2 : steps 16 v = steps 8 (steps 8 v) := steps_add 8 8 v
  have x1 : steps 16 x = steps 8 (steps 8 x) := steps_add 8 8 x
  rw [u1, u2, u3, v1, v2, x1, steps_xor 8 (steps 8 u) v, steps_xor 8 _ x, steps_xor 8 _ y, steps_xor 8 (steps 8 (steps 8 u)) _, steps_xor 8 _ (steps 8 x), steps_xor 8 _ (steps 8 (steps 8 v))]
/-- Unlike rows of four bytes have unlike sums. -/
theorem sumOf_four {a b d e a' b' d' e' : BitVec 8} (h : sumOf [a, b, d, e] = sumOf [a', b', d', e']) : a = a' ∧ b = b' ∧ d = d' ∧ e = e' := by
  have h1 : crcOf (BitVec.allOnes 32) [a, b, d, e] = crcOf (BitVec.allOnes 32) [a', b', d', e'] := by
    have := congrArg (fun x => ~~~ x) h
    simpa [sumOf] using this
  rw [crcOf_four, crcOf_four] at h1
  have h2 := steps_inj h1
  have h3 := (BitVec.xor_right_inj _).1 h2
  have bit : ∀ i, i < 32 → (a.setWidth 32 ^^^ (b.setWidth 32 <<< 8) ^^^ (d.setWidth 32 <<< 16) ^^^ (e.setWidth 32 <<< 24)).getLsbD i = (a'.setWidth 32 ^^^ (b'.setWidth 32 <<< 8) ^^^ (d'.setWidth 32 <<< 16) ^^^ (e'.setWidth 32 <<< 24)).getLsbD i :=
    fun i _ => by rw [h3]
  simp only [BitVec.getLsbD_xor, BitVec.getLsbD_shiftLeft, BitVec.getLsbD_setWidth] at bit
  have hi : ∀ (x : BitVec 8) i, 8 ≤ i → x.getLsbD i = false := fun x i h => BitVec.getLsbD_of_ge _ _ h
  refine ⟨?_, ?_, ?_, ?_⟩ <;> apply BitVec.eq_of_getLsbD_eq <;> intro i hi8
  · have := bit i (by omega)
    simpa [show i < 32 by omega, show i < 8 by omega, show i < 16 by omega, show i < 24 by omega] using this
  · have := bit (i + 8) (by omega)
    simpa [show i < 32 by omega, show i + 8 < 32 by omega, show ¬ i + 8 < 8 by omega, show i + 8 < 16 by omega, show i + 8 < 24 by omega, hi _ _ (show 8 ≤ i + 8 by omega)] using this
  · have := bit (i + 16) (by omega)
    simpa [show i < 32 by omega, show i + 16 < 32 by omega, show ¬ i + 16 < 8 by omega, show ¬ i + 16 < 16 by omega, show i + 16 < 24 by omega, hi _ _ (show 8 ≤ i + 16 by omega), hi _ _ (show 8 ≤ i + 16 - 8 by omega)] using this
  · have := bit (i + 24) (by omega)
    simpa [show i < 32 by omega, show i + 24 < 32 by omega, show ¬ i + 24 < 8 by omega, show ¬ i + 24 < 16 by omega, show ¬ i + 24 < 24 by omega, hi _ _ (show 8 ≤ i + 24 by omega), hi _ _ (show 8 ≤ i + 24 - 8 by omega), hi _ _ (show 8 ≤ i + 24 - 16 by omega)] using this

/-! ### The words of the code -/

theorem bitsV_and (c d : BitVec 32) : bitsV .and .u32 (c.toNat : Int) (d.toNat : Int) = ((c &&& d).toNat : Int) := by
  show IntKind.wrap .u32 ((BitVec.ofInt 32 (c.toNat : Int) &&& BitVec.ofInt 32 (d.toNat : Int)).toNat : Int) = _
  have hc : BitVec.ofInt 32 (c.toNat : Int) = c := by simp
  have hd : BitVec.ofInt 32 (d.toNat : Int) = d := by simp
  rw [hc, hd, IntKind.wrap_u32]
  have h : (c &&& d).toNat < 4294967296 := (c &&& d).isLt
  omega
theorem bitsV_xor (c d : BitVec 32) : bitsV .xor .u32 (c.toNat : Int) (d.toNat : Int) = ((c ^^^ d).toNat : Int) := by
  show IntKind.wrap .u32 ((BitVec.ofInt 32 (c.toNat : Int) ^^^ BitVec.ofInt 32 (d.toNat : Int)).toNat : Int) = _
  have hc : BitVec.ofInt 32 (c.toNat : Int) = c := by simp
  have hd : BitVec.ofInt 32 (d.toNat : Int) = d := by simp
  rw [hc, hd, IntKind.wrap_u32]
  have h : (c ^^^ d).toNat < 4294967296 := (c ^^^ d).isLt
  omega
theorem shift_one (c : BitVec 32) : Int.fdiv (c.toNat : Int) (2 ^ (min (Int.toNat (1 : Int)) (IntKind.bits .u32))) = ((c >>> 1).toNat : Int) := by
  rw [BitVec.toNat_ushiftRight, Nat.shiftRight_eq_div_pow]
  show Int.fdiv (c.toNat : Int) 2 = ((c.toNat / 2 : Nat) : Int)
  rw [Int.fdiv_eq_ediv_of_nonneg _ (by omega)]
  omega
theorem and_one (c : BitVec 32) : ((c &&& 1#32).toNat : Int) = if c.getLsbD 0 then 1 else 0 := by
  rw [BitVec.toNat_and]
  simp only [BitVec.getLsbD, Nat.testBit_zero]
  have : c.toNat &&& (1#32).toNat = c.toNat % 2 := Nat.and_one_is_mod _
  rw [this]
  rcases Nat.mod_two_eq_zero_or_one c.toNat with h | h <;> simp [h]
theorem stepB_cases (c : BitVec 32) : stepB c = if c.getLsbD 0 then (c >>> 1) ^^^ poly else c >>> 1 := by unfold stepB; split <;> simp

end Go.Den

/-
  Numbers are settled, the nearest first: what is found is the distance. No program in sight.
-/
namespace Go.Den
open Go

structure It where
  id : Int
  key : Int
  deriving DecidableEq
def itlt (x y : It) : Bool := decide (x.key < y.key) || (decide (x.key = y.key) && decide (x.id < y.id))
theorem itlt_iff {x y : It} : itlt x y = true ↔ x.key < y.key ∨ (x.key = y.key ∧ x.id < y.id) := by simp [itlt]
theorem itlt_tri (x y : It) : itlt x y = true ∨ x = y ∨ itlt y x = true := by
  obtain ⟨a, b⟩ := x
  obtain ⟨c, d⟩ := y
  simp only [itlt_iff, It.mk.injEq]
  omega
abbrev QSrt (q : List It) : Prop := q.Pairwise fun x y => itlt x y = true
theorem QSrt.ext {l m : List It} (h : QSrt l) (h' : QSrt m) (he : ∀ x, x ∈ l ↔ x ∈ m) : l = m :=
  pairwise_ext (fun a h => by rw [itlt_iff] at h; omega) (fun a b h h' => by rw [itlt_iff] at h h'; omega) h h' he
def insQ (q : List It) (x : It) : List It := q.filter (fun y => itlt y x) ++ x :: q.filter (fun y => itlt x y)
theorem mem_insQ {q : List It} {x y : It} : y ∈ insQ q x ↔ y = x ∨ y ∈ q := by
  unfold insQ
  simp only [List.mem_append, List.mem_cons, List.mem_filter]
  constructor
  · rintro (⟨h, _⟩ | rfl | ⟨h, _⟩) <;> simp_all
  · rintro (rfl | h)
    · simp
    · rcases itlt_tri y x with h1 | rfl | h1 <;> simp_all
theorem QSrt.ins {q : List It} (h : QSrt q) (x : It) : QSrt (insQ q x) := by
  unfold insQ QSrt
  rw [List.pairwise_append]
  refine ⟨List.Pairwise.filter _ h, ?_, fun a ha b hb => ?_⟩
  · rw [List.pairwise_cons]
    exact ⟨fun b hb => (List.mem_filter.1 hb).2, List.Pairwise.filter _ h⟩
  · have h1 := itlt_iff.1 (List.mem_filter.1 ha).2
    rcases List.mem_cons.1 hb with rfl | hb
    · exact itlt_iff.2 h1
    · have h2 := itlt_iff.1 (List.mem_filter.1 hb).2
      rw [itlt_iff]; omega
/-- Each number but once. -/
def One (q : List It) : Prop := ∀ x ∈ q, ∀ y ∈ q, x.id = y.id → x = y
def keyQ (q : List It) (v : Int) : Option Int := (q.find? fun y => decide (y.id = v)).map (·.key)
theorem keyQ_some {q : List It} {v k : Int} (h : keyQ q v = some k) : ⟨v, k⟩ ∈ q := by
  unfold keyQ at h
  cases hf : q.find? (fun y => decide (y.id = v)) with
  | none => rw [hf] at h; cases h
  | some y =>
    rw [hf] at h
    have h1 := List.mem_of_find?_eq_some hf
    have h2 := List.find?_some hf
    obtain ⟨a, b⟩ := y
    simp at h h2
    subst h h2
    exact h1
theorem keyQ_none {q : List It} {v : Int} (h : keyQ q v = none) : ∀ x ∈ q, x.id ≠ v := by
  intro x hx
  unfold keyQ at h
  simp only [Option.map_eq_none_iff, List.find?_eq_none] at h
  simpa using h x hx
theorem keyQ_mem {q : List It} (h : One q) {x : It} (hx : x ∈ q) : keyQ q x.id = some x.key := by
  cases hk : keyQ q x.id with
  | none => exact absurd rfl (keyQ_none hk x hx)
  | some k => have := h _ (keyQ_some hk) x hx rfl; rw [← this]
/-- A number is put there, or comes nearer. -/
def lowQ (q : List It) (v k : Int) : Bool := match keyQ q v with
  | some k0 => decide (k0 ≤ k)
  | none => false
def pushQ (q : List It) (v k : Int) : List It × Bool := if lowQ q v k then (q, false) else (insQ (q.filter fun y => decide (y.id ≠ v)) ⟨v, k⟩, true)

theorem push_mem {q : List It} {v k : Int} {y : It} (h : y ∈ (pushQ q v k).1) : y ∈ q ∨ y = ⟨v, k⟩ := by
  unfold pushQ at h
  split at h
  · exact .inl h
  · rcases mem_insQ.1 h with rfl | h
    · exact .inr rfl
    · exact .inl (List.mem_filter.1 h).1
theorem push_keep {q : List It} (h1 : One q) {v k : Int} {x : It} (hx : x ∈ q) : ∃ y ∈ (pushQ q v k).1, y.id = x.id ∧ y.key ≤ x.key := by
  unfold pushQ
  split
  · exact ⟨x, hx, rfl, Int.le_refl _⟩
  · rename_i hl
    by_cases e : x.id = v
    · refine ⟨⟨v, k⟩, mem_insQ.2 (.inl rfl), e.symm, ?_⟩
      have := keyQ_mem h1 hx
      unfold lowQ at hl
      rw [← e, this] at hl
      simp at hl
      show k ≤ x.key
      omega
    · exact ⟨x, mem_insQ.2 (.inr (List.mem_filter.2 ⟨hx, by simpa using e⟩)), rfl, Int.le_refl _⟩
theorem push_low {q : List It} {v k : Int} : ∃ y ∈ (pushQ q v k).1, y.id = v ∧ y.key ≤ k := by
  unfold pushQ
  split
  · rename_i hl
    unfold lowQ at hl
    cases hk : keyQ q v with
    | none => rw [hk] at hl; cases hl
    | some k0 => rw [hk] at hl; exact ⟨⟨v, k0⟩, keyQ_some hk, rfl, by simpa using hl⟩
  · exact ⟨⟨v, k⟩, mem_insQ.2 (.inl rfl), rfl, Int.le_refl _⟩
theorem push_srt {q : List It} (h : QSrt q) (v k : Int) : QSrt (pushQ q v k).1 := by
  unfold pushQ
  split
  · exact h
  · exact QSrt.ins (List.Pairwise.filter _ h) _
theorem push_one {q : List It} (h : One q) (v k : Int) : One (pushQ q v k).1 := by
  unfold pushQ
  split
  · exact h
  · intro x hx y hy e
    rcases mem_insQ.1 hx with rfl | hx <;> rcases mem_insQ.1 hy with rfl | hy
    · rfl
    · have := (List.mem_filter.1 hy).2; simp at this; exact absurd e.symm this
    · have := (List.mem_filter.1 hx).2; simp at this; exact absurd e this
    · exact h x (List.mem_filter.1 hx).1 y (List.mem_filter.1 hy).1 e

/-! ### Rows of arcs, that never go to one number -/

inductive Walk (L : List Arc) (c a : Int) : Int → Int → Prop where
  | nil : Walk L c a a 0
  | snoc {v d : Int} (e : Arc) (h : Walk L c a v d) (he : e ∈ L) (hf : e.f = v) (ht : e.t ≠ c) : Walk L c a e.t (d + e.w)

/-! ### Settling -/

def isIn (s : List It) (v : Int) : Bool := s.any fun x => decide (x.id = v)
theorem isIn_iff {s : List It} {v : Int} : isIn s v = true ↔ ∃ x ∈ s, x.id = v := by simp [isIn]
def pushes (c : Int) (s : List It) (d : Int) (q : List It) (l : List Arc) : List It := l.foldl (fun q a => if a.t = c ∨ isIn s a.t = true then q else (pushQ q a.t (d + a.w)).1) q
def stepQ (L : List Arc) (c : Int) (z : List It × List It) : List It × List It := match z.1 with
  | [] => ([], z.2)
  | x :: q => (pushes c (z.2 ++ [x]) x.key q (outL L x.id), z.2 ++ [x])
def runQ (L : List Arc) (c a : Int) : Nat → List It × List It
  | 0 => ([⟨a, 0⟩], [])
  | n + 1 => stepQ L c (runQ L c a n)

theorem pushes_snoc (c : Int) (s : List It) (d : Int) (q : List It) (l : List Arc) (a : Arc) : pushes c s d q (l ++ [a]) = if a.t = c ∨ isIn s a.t = true then pushes c s d q l else (pushQ (pushes c s d q l) a.t (d + a.w)).1 := by simp [pushes]
theorem pushes_cons (c : Int) (s : List It) (d : Int) (q : List It) (l : List Arc) (a : Arc) : pushes c s d q (a :: l) = pushes c s d (if a.t = c ∨ isIn s a.t = true then q else (pushQ q a.t (d + a.w)).1) l := rfl

theorem pushes_ok {c : Int} {s : List It} {d : Int} : ∀ {l : List Arc} {q : List It}, QSrt q → One q → QSrt (pushes c s d q l) ∧ One (pushes c s d q l) ∧
    (∀ y ∈ pushes c s d q l, y ∈ q ∨ ∃ e ∈ l, e.t ≠ c ∧ isIn s e.t = false ∧ y = ⟨e.t, d + e.w⟩) ∧ (∀ x ∈ q, ∃ y ∈ pushes c s d q l, y.id = x.id ∧ y.key ≤ x.key) ∧
    (∀ e ∈ l, e.t ≠ c → isIn s e.t = false → ∃ y ∈ pushes c s d q l, y.id = e.t ∧ y.key ≤ d + e.w)
  | [], q, h1, h2 => ⟨h1, h2, fun y hy => .inl hy, fun x hx => ⟨x, hx, rfl, Int.le_refl _⟩, by simp⟩
  | a :: l, q, h1, h2 => by
    rw [pushes_cons]
    by_cases hc : a.t = c ∨ isIn s a.t = true
    · rw [if_pos hc]
      obtain ⟨g1, g2, g3, g4, g5⟩ := pushes_ok (c := c) (s := s) (d := d) (l := l) h1 h2
      refine ⟨g1, g2, fun y hy => (g3 y hy).imp id fun ⟨e, he, r⟩ => ⟨e, by simp [he], r⟩, g4, fun e he n1 n2 => ?_⟩
      rcases List.mem_cons.1 he with rfl | he
      · rcases hc with hc | hc
        · exact absurd hc n1
        · rw [hc] at n2; cases n2
      · exact g5 e he n1 n2
    · rw [if_neg hc]
      obtain ⟨g1, g2, g3, g4, g5⟩ := pushes_ok (c := c) (s := s) (d := d) (l := l) (push_srt h1 a.t (d + a.w)) (push_one h2 a.t (d + a.w))
      have hc1 : a.t ≠ c := fun e => hc (.inl e)
      have hc2 : isIn s a.t = false := by cases h : isIn s a.t with
        | false => rfl
        | true => exact absurd (.inr h) hc
      refine ⟨g1, g2, fun y hy => ?_, fun x hx => ?_, fun e he n1 n2 => ?_⟩
      · rcases g3 y hy with hq | ⟨e, he, r⟩
        · rcases push_mem hq with hq | rfl
          · exact .inl hq
          · exact .inr ⟨a, by simp, hc1, hc2, rfl⟩
        · exact .inr ⟨e, by simp [he], r⟩
      · obtain ⟨y, hy, e1, e2⟩ := push_keep h2 (v := a.t) (k := d + a.w) hx
        obtain ⟨z, hz, e3, e4⟩ := g4 y hy
        exact ⟨z, hz, e3.trans e1, Int.le_trans e4 e2⟩
      · rcases List.mem_cons.1 he with rfl | he
        · obtain ⟨y, hy, e1, e2⟩ := push_low (q := q) (v := e.t) (k := d + e.w)
          obtain ⟨z, hz, e3, e4⟩ := g4 y hy
          exact ⟨z, hz, e3.trans e1, Int.le_trans e4 e2⟩
        · exact g5 e he n1 n2

structure SInv (m : Nat) (L : List Arc) (c a : Int) (q s : List It) : Prop where
  srt : QSrt q
  one : One q
  dis : (s.map (·.id)).Nodup
  far : ∀ x ∈ q, isIn s x.id = false
  walk : ∀ x ∈ s ++ q, Walk L c a x.id x.key
  src : ⟨a, 0⟩ ∈ s ++ q
  clo : ∀ x ∈ s, ∀ e ∈ L, e.f = x.id → e.t ≠ c → ∃ y ∈ s ++ q, y.id = e.t ∧ y.key ≤ x.key + e.w
  mono : ∀ x ∈ s, ∀ y ∈ q, x.key ≤ y.key
  low : ∀ x ∈ s, ∀ d, Walk L c a x.id d → x.key ≤ d
  bnd : ∀ x ∈ s ++ q, 0 ≤ x.key ∧ x.key ≤ s.length * 1099511627776 ∧ 0 ≤ x.id ∧ x.id < m

theorem SInv.reach {m : Nat} {L : List Arc} {c a : Int} {q s : List It} (h : SInv m L c a q s) (hL : OkL m L) {v d : Int} (hw : Walk L c a v d) : (∃ x ∈ s, x.id = v ∧ x.key ≤ d) ∨ ∃ y ∈ q, y.key ≤ d := by
  induction hw with
  | nil =>
    rcases List.mem_append.1 h.src with hs | hq
    · exact .inl ⟨_, hs, rfl, Int.le_refl _⟩
    · exact .inr ⟨_, hq, Int.le_refl _⟩
  | snoc e _ he hf ht ih =>
    rcases ih with ⟨x, hx, hv, hd⟩ | ⟨y, hy, hd⟩
    · obtain ⟨y, hy, e1, e2⟩ := h.clo x hx e he (hf.trans hv.symm) ht
      rcases List.mem_append.1 hy with hs | hq
      · exact .inl ⟨y, hs, e1, by omega⟩
      · exact .inr ⟨y, hq, by omega⟩
    · have := (hL.may e he).2.2.2.2.2.1
      exact .inr ⟨y, hy, by omega⟩

theorem SInv.step {m : Nat} {L : List Arc} {c a : Int} {q s : List It} (h : SInv m L c a q s) (hL : OkL m L) : SInv m L c a (stepQ L c (q, s)).1 (stepQ L c (q, s)).2 := by
  cases q with
  | nil => exact h
  | cons x q =>
    have hq := List.pairwise_cons.1 h.srt
    have hone : One q := fun y hy z hz => h.one y (by simp [hy]) z (by simp [hz])
    obtain ⟨g1, g2, g3, g4, g5⟩ := pushes_ok (c := c) (s := s ++ [x]) (d := x.key) (l := outL L x.id) hq.2 hone
    show SInv m L c a (pushes c (s ++ [x]) x.key q (outL L x.id)) (s ++ [x])
    generalize pushes c (s ++ [x]) x.key q (outL L x.id) = p at *
    have hxs : isIn s x.id = false := h.far x (by simp)
    have hxw := h.walk x (by simp)
    have hxb := h.bnd x (by simp)
    have inS : ∀ v, isIn (s ++ [x]) v = false ↔ isIn s v = false ∧ x.id ≠ v := fun v => by simp [isIn]
    have low : ∀ d, Walk L c a x.id d → x.key ≤ d := fun d hw => by
      rcases h.reach hL hw with ⟨y, hy, hv, _⟩ | ⟨y, hy, hd⟩
      · have : isIn s x.id = true := isIn_iff.2 ⟨y, hy, hv⟩
        rw [hxs] at this; cases this
      · rcases List.mem_cons.1 hy with rfl | hy
        · exact hd
        · have := itlt_iff.1 (hq.1 y hy); omega
    have hold : ∀ y ∈ s ++ (x :: q), ∃ z ∈ s ++ [x] ++ p, z.id = y.id ∧ z.key ≤ y.key := fun y hy => by
      rcases List.mem_append.1 hy with hy | hy
      · exact ⟨y, by simp [hy], rfl, Int.le_refl _⟩
      · rcases List.mem_cons.1 hy with rfl | hy
        · exact ⟨y, by simp, rfl, Int.le_refl _⟩
        · obtain ⟨z, hz, r⟩ := g4 y hy
          exact ⟨z, by simp [hz], r⟩
    refine ⟨g1, g2, ?_, ?_, ?_, ?_, ?_, ?_, ?_, ?_⟩
    · rw [List.map_append, List.nodup_append]
      refine ⟨h.dis, by simp, fun u hu v hv => ?_⟩
      simp at hv
      subst hv
      obtain ⟨y, hy, rfl⟩ := List.mem_map.1 hu
      intro e
      have : isIn s x.id = true := isIn_iff.2 ⟨y, hy, e⟩
      rw [hxs] at this; cases this
    · intro y hy
      rcases g3 y hy with hyq | ⟨e, _, _, h2, rfl⟩
      · refine (inS _).2 ⟨h.far y (by simp [hyq]), fun e => ?_⟩
        have := h.one x (by simp) y (by simp [hyq]) e
        subst this
        have := itlt_iff.1 (hq.1 x hyq); omega
      · exact h2
    · intro y hy
      rcases List.mem_append.1 hy with hy | hy
      · exact h.walk y (by rcases List.mem_append.1 hy with hy | hy <;> simp_all)
      · rcases g3 y hy with hyq | ⟨e, he, h1, _, rfl⟩
        · exact h.walk y (by simp [hyq])
        · obtain ⟨heL, hef⟩ := mem_outL.1 he
          exact Walk.snoc e hxw heL hef h1
    · rcases List.mem_append.1 h.src with hs | hs
      · simp [hs]
      · rcases List.mem_cons.1 hs with hs | hs
        · simp [hs]
        · -- the first one is the source itself till it is settled
          obtain ⟨z, hz, e1, e2⟩ := g4 _ hs
          have := low 0
          have hk := itlt_iff.1 (hq.1 _ hs)
          have := hxb.1
          simp only at hk e1 e2
          have hzb : 0 ≤ z.key := by
            rcases g3 z hz with hzq | ⟨e, he, _, _, rfl⟩
            · exact (h.bnd z (by simp [hzq])).1
            · have := (hL.may e (mem_outL.1 he).1).2.2.2.2.2.1; show 0 ≤ x.key + e.w; omega
          have : z = ⟨a, 0⟩ := by obtain ⟨i, k⟩ := z; simp only at *; subst e1; congr 1; omega
          rw [← this]; simp [hz]
    · intro y hy e he hf ht
      rcases List.mem_append.1 hy with hy | hy
      · obtain ⟨z, hz, e1, e2⟩ := h.clo y hy e he hf ht
        obtain ⟨u, hu, e3, e4⟩ := hold z hz
        exact ⟨u, hu, e3.trans e1, Int.le_trans e4 e2⟩
      · simp at hy
        subst hy
        cases hin : isIn (s ++ [y]) e.t with
        | false =>
          obtain ⟨z, hz, r⟩ := g5 e (mem_outL.2 ⟨he, hf⟩) ht hin
          exact ⟨z, by simp [hz], r⟩
        | true =>
          obtain ⟨z, hz, hzt⟩ := isIn_iff.1 hin
          refine ⟨z, by simp only [List.mem_append]; exact .inl (by simpa using hz), hzt, ?_⟩
          have hw := Walk.snoc e hxw he hf ht
          rcases List.mem_append.1 hz with hz | hz
          · exact h.low z hz _ (hzt ▸ hw)
          · simp at hz; subst hz
            exact low _ (hzt ▸ hw)
    · intro y hy z hz
      have hxz : x.key ≤ z.key := by
        rcases g3 z hz with hzq | ⟨e, he, _, _, rfl⟩
        · have := itlt_iff.1 (hq.1 z hzq); omega
        · have := (hL.may e (mem_outL.1 he).1).2.2.2.2.2.1; show x.key ≤ x.key + e.w; omega
      rcases List.mem_append.1 hy with hy | hy
      · exact Int.le_trans (h.mono y hy x (by simp)) hxz
      · simp at hy; subst hy; exact hxz
    · intro y hy
      rcases List.mem_append.1 hy with hy | hy
      · exact h.low y hy
      · simp at hy; subst hy; exact low
    · have len : (s ++ [x]).length = s.length + 1 := by simp
      intro y hy
      rw [len]
      have old : ∀ y ∈ s ++ (x :: q), 0 ≤ y.key ∧ y.key ≤ ((s.length + 1 : Nat) : Int) * 1099511627776 ∧ 0 ≤ y.id ∧ y.id < m := fun y hy => by
        obtain ⟨b1, b2, b3⟩ := h.bnd y hy
        exact ⟨b1, by omega, b3⟩
      rcases List.mem_append.1 hy with hy | hy
      · exact old y (by rcases List.mem_append.1 hy with hy | hy <;> simp_all)
      · rcases g3 y hy with hyq | ⟨e, he, _, _, rfl⟩
        · exact old y (by simp [hyq])
        · have hm := hL.may e (mem_outL.1 he).1
          obtain ⟨_, _, m1, m2, _, m3, m4, _⟩ := hm
          refine ⟨?_, ?_, m1, m2⟩
          · show 0 ≤ x.key + e.w; omega
          · show x.key + e.w ≤ _; omega

theorem run_inv {m : Nat} {L : List Arc} (hL : OkL m L) (c : Int) {a : Int} (ha : 0 ≤ a) (ha' : a < m) : ∀ n, SInv m L c a (runQ L c a n).1 (runQ L c a n).2
  | 0 => by
    refine ⟨List.pairwise_singleton _ _, ?_, List.nodup_nil, by simp [runQ, isIn], ?_, by simp [runQ], by simp [runQ], by simp [runQ], by simp [runQ], ?_⟩
    · intro x hx y hy _; simp [runQ] at hx hy; rw [hx, hy]
    · intro x hx; simp [runQ] at hx; subst hx; exact Walk.nil
    · intro x hx; simp [runQ] at hx; subst hx; exact ⟨Int.le_refl _, by simp [runQ], ha, ha'⟩
  | n + 1 => (run_inv hL c ha ha' n).step hL

/-- Behind each step one more is settled, or none is left. -/
theorem run_len (L : List Arc) (c a : Int) : ∀ n, (runQ L c a n).2.length = n ∨ ((runQ L c a n).1 = [] ∧ (runQ L c a n).2.length ≤ n)
  | 0 => .inl rfl
  | n + 1 => by
    have ih := run_len L c a n
    show (stepQ L c (runQ L c a n)).2.length = n + 1 ∨ ((stepQ L c (runQ L c a n)).1 = [] ∧ _)
    cases hz : runQ L c a n with
    | mk q s =>
      rw [hz] at ih
      cases q with
      | nil =>
        right
        refine ⟨rfl, ?_⟩
        show (runQ L c a (n + 1)).2.length ≤ n + 1
        have e : (runQ L c a (n + 1)).2 = s := by show (stepQ L c (runQ L c a n)).2 = s; rw [hz]; rfl
        rw [e]
        rcases ih with h | h
        · simp only at h; omega
        · have := h.2; simp only at this; omega
      | cons x q => left; rcases ih with h | ⟨h, _⟩
                    · simp [stepQ] at h ⊢; omega
                    · cases h
theorem nodup_len : ∀ {m : Nat} {l : List Int}, l.Nodup → (∀ x ∈ l, 0 ≤ x ∧ x < m) → l.length ≤ m
  | 0, l, _, hb => by
    cases l with
    | nil => simp
    | cons x l => have := hb x (by simp); omega
  | m + 1, l, h, hb => by
    have one : ∀ (l : List Int), l.Nodup → l.length ≤ (l.filter fun x => decide (x ≠ (m : Int))).length + 1 := by
      intro l
      induction l with
      | nil => intro _; simp
      | cons x l ih =>
        intro hn
        rw [List.nodup_cons] at hn
        by_cases e : x = (m : Int)
        · have : l.filter (fun x => decide (x ≠ (m : Int))) = l := List.filter_eq_self.2 fun y hy => by
            simp only [ne_eq, decide_eq_true_eq]
            rintro rfl
            exact hn.1 (e ▸ hy)
          simp only [List.filter_cons]
          rw [this]
          simp [e]
        · have := ih hn.2
          simp only [List.filter_cons, List.length_cons]
          rw [if_pos (by simpa using e)]
          simp only [List.length_cons]; omega
    have ih := nodup_len (m := m) (l := l.filter fun x => decide (x ≠ (m : Int))) (List.Pairwise.filter _ h) fun x hx => by
      have h1 := hb x (List.mem_filter.1 hx).1
      have h2 : x ≠ (m : Int) := by simpa using (List.mem_filter.1 hx).2
      omega
    have := one l h
    omega
theorem SInv.len {m : Nat} {L : List Arc} {c a : Int} {q s : List It} (h : SInv m L c a q s) : s.length ≤ m := by
  have := nodup_len h.dis fun v hv => by obtain ⟨x, hx, rfl⟩ := List.mem_map.1 hv; exact (h.bnd x (by simp [hx])).2.2
  simpa using this
theorem SInv.len_q {m : Nat} {L : List Arc} {c a : Int} {x : It} {q s : List It} (h : SInv m L c a (x :: q) s) : s.length < m := by
  have hn : ((s.map (·.id)) ++ [x.id]).Nodup := by
    rw [List.nodup_append]
    refine ⟨h.dis, by simp, fun u hu v hv => ?_⟩
    simp at hv; subst hv
    obtain ⟨y, hy, rfl⟩ := List.mem_map.1 hu
    intro e
    have := h.far x (by simp)
    rw [isIn_iff.2 ⟨y, hy, e⟩] at this; cases this
  have := nodup_len (m := m) hn fun v hv => by
    rcases List.mem_append.1 hv with hv | hv
    · obtain ⟨y, hy, rfl⟩ := List.mem_map.1 hv; exact (h.bnd y (by simp [hy])).2.2
    · simp at hv; subst hv; exact (h.bnd x (by simp)).2.2
  simp at this; omega

section
variable {m : Nat} {L : List Arc} (hL : OkL m L) (c : Int) {a : Int} (ha : 0 ≤ a) (ha' : a < m)
include hL ha ha'
theorem run_done {n : Nat} (hn : m ≤ n) : (runQ L c a n).1 = [] := by
  have hi := run_inv hL c ha ha' n
  cases hz : runQ L c a n with
  | mk q s =>
    rw [hz] at hi
    cases q with
    | nil => rfl
    | cons x q =>
      have h1 := hi.len_q
      rcases run_len L c a n with h | ⟨h, _⟩
      · rw [hz] at h; simp only at h h1; omega
      · rw [hz] at h; cases h
omit hL ha ha' in
theorem run_take (n : Nat) : ∀ k, (runQ L c a n).2 = ((runQ L c a (n + k)).2).take n
  | 0 => by
    rcases run_len L c a n with h | ⟨_, h⟩
    · rw [Nat.add_zero, List.take_of_length_le (by omega)]
    · rw [Nat.add_zero, List.take_of_length_le h]
  | k + 1 => by
    rw [run_take n k]
    show _ = (stepQ L c (runQ L c a (n + k))).2.take n
    have hl := run_len L c a (n + k)
    cases hz : runQ L c a (n + k) with
    | mk q s =>
      rw [hz] at hl
      cases q with
      | nil => rfl
      | cons x q =>
        rcases hl with h | ⟨h, _⟩
        · simp only [stepQ] at h ⊢
          rw [List.take_append_of_le_length (by omega)]
        · cases h
omit hL ha ha' in
/-- All that are settled, in their order. -/
def settled (m : Nat) (L : List Arc) (c a : Int) : List It := (runQ L c a m).2
theorem run_eq (n : Nat) : (runQ L c a n).2 = (settled m L c a).take n := by
  unfold settled
  rcases Nat.le_total n m with h | h
  · obtain ⟨k, rfl⟩ : ∃ k, m = n + k := ⟨m - n, by omega⟩
    exact run_take c n k
  · obtain ⟨k, rfl⟩ : ∃ k, n = m + k := ⟨n - m, by omega⟩
    rw [List.take_of_length_le (by have := (run_inv hL c ha ha' m).len; omega)]
    have hd := run_done hL c ha ha' (Nat.le_refl m)
    clear h
    induction k with
    | zero => rfl
    | succ k ih =>
      show (stepQ L c (runQ L c a (m + k))).2 = _
      have hk := run_done hL c ha ha' (n := m + k) (by omega)
      cases hz : runQ L c a (m + k) with
      | mk q s => rw [hz] at ih hk; simp only at hk; subst hk; exact ih
/-- What is settled is just what can be come to, and how far it is. -/
theorem settled_dist {v d : Int} : (⟨v, d⟩ : It) ∈ settled m L c a ↔ Walk L c a v d ∧ ∀ d', Walk L c a v d' → d ≤ d' := by
  have hi := run_inv hL c ha ha' m
  have hd := run_done hL c ha ha' (Nat.le_refl m)
  rw [hd] at hi
  constructor
  · intro h
    exact ⟨hi.walk _ (List.mem_append.2 (.inl h)), hi.low _ h⟩
  · rintro ⟨h1, h2⟩
    rcases hi.reach hL h1 with ⟨x, hx, rfl, hk⟩ | ⟨y, hy, _⟩
    · have := hi.walk x (by simpa using hx)
      have := h2 _ this
      have : (⟨x.id, d⟩ : It) = x := by obtain ⟨i, k⟩ := x; simp only at *; congr 1; omega
      rw [this]; exact hx
    · cases hy
theorem settled_reach {v d : Int} (h : Walk L c a v d) : ∃ k, k ≤ d ∧ (⟨v, k⟩ : It) ∈ settled m L c a := by
  have hi := run_inv hL c ha ha' m
  have hd := run_done hL c ha ha' (Nat.le_refl m)
  rw [hd] at hi
  rcases hi.reach hL h with ⟨x, hx, rfl, hk⟩ | ⟨y, hy, _⟩
  · exact ⟨x.key, hk, hx⟩
  · cases hy
theorem settled_one {x y : It} (hx : x ∈ settled m L c a) (hy : y ∈ settled m L c a) (e : x.id = y.id) : x = y := by
  have h1 := (settled_dist hL c ha ha' (v := x.id) (d := x.key)).1 hx
  have h2 := (settled_dist hL c ha ha' (v := y.id) (d := y.key)).1 hy
  obtain ⟨i, k⟩ := x
  obtain ⟨j, l⟩ := y
  simp only at e h1 h2
  subst e
  have := h1.2 _ h2.1
  have := h2.2 _ h1.1
  congr 1; omega
theorem settled_len : (settled m L c a).length ≤ m := (run_inv hL c ha ha' m).len
theorem settled_bnd {x : It} (hx : x ∈ settled m L c a) : 0 ≤ x.key ∧ x.key ≤ m * 1099511627776 ∧ 0 ≤ x.id ∧ x.id < m := by
  have hi := run_inv hL c ha ha' m
  have h1 := hi.bnd x (by simp only [List.mem_append]; exact .inl hx)
  have h2 := hi.len
  refine ⟨h1.1, ?_, h1.2.2⟩
  have : ((runQ L c a m).2.length : Int) * 1099511627776 ≤ (m : Int) * 1099511627776 := by omega
  omega
end
end Go.Den

/-
  A heap in a row: what rises, and what sinks. No program in sight.
-/
namespace Go.Den
open Go

def Edge (zs : List It) (k j : Nat) : Prop := ∀ x y, zs[k]? = some x → zs[j]? = some y → itlt y x = false
def HOk (zs : List It) : Prop := ∀ j, 0 < j → Edge zs ((j - 1) / 2) j
structure UpI (zs : List It) (i : Nat) : Prop where
  rest : ∀ j, 0 < j → j ≠ i → Edge zs ((j - 1) / 2) j
  over : ∀ j, 0 < j → (j - 1) / 2 = i → 0 < i → Edge zs ((i - 1) / 2) j
structure DownI (zs : List It) (i : Nat) : Prop where
  rest : ∀ j, 0 < j → (j - 1) / 2 ≠ i → Edge zs ((j - 1) / 2) j
  over : ∀ j, 0 < j → (j - 1) / 2 = i → 0 < i → Edge zs ((i - 1) / 2) j

theorem le_trans' {x y z : It} (h : itlt y x = false) (h' : itlt z y = false) : itlt z x = false := by
  have h1 : ¬ itlt y x = true := by rw [h]; simp
  have h2 : ¬ itlt z y = true := by rw [h']; simp
  have : ¬ itlt z x = true := by rw [itlt_iff] at *; omega
  simpa using this
theorem lt_le {x y : It} (h : itlt x y = true) : itlt y x = false := by
  have : ¬ itlt y x = true := by rw [itlt_iff] at *; omega
  simpa using this
theorem le_anti {x y : It} (h : itlt x y = false) (h' : itlt y x = false) : x = y := by
  rcases itlt_tri x y with h1 | h1 | h1
  · rw [h] at h1; cases h1
  · exact h1
  · rw [h'] at h1; cases h1
theorem itlt_irr (x : It) : itlt x x = false := by
  have : ¬ itlt x x = true := by rw [itlt_iff]; omega
  simpa using this

theorem sw_get {zs : List It} {i p : Nat} (hi : i < zs.length) (hp : p < zs.length) (x y : It) (j : Nat) : ((zs.set i y).set p x)[j]? = if j = p then some x else if j = i then some y else zs[j]? := by
  rw [List.getElem?_set, List.getElem?_set]
  by_cases h1 : j = p
  · subst h1; simp [hp]
  · rw [if_neg (fun e => h1 e.symm), if_neg h1]
    by_cases h2 : j = i
    · subst h2; simp [hi]
    · rw [if_neg (fun e => h2 e.symm), if_neg h2]
theorem sw_mem {zs : List It} {i p : Nat} {x y : It} (hx : zs[i]? = some x) (hy : zs[p]? = some y) (u : It) : u ∈ (zs.set i y).set p x ↔ u ∈ zs := by
  have hi := (List.getElem?_eq_some_iff.1 hx).1
  have hp := (List.getElem?_eq_some_iff.1 hy).1
  rw [List.mem_iff_getElem?, List.mem_iff_getElem?]
  constructor
  · rintro ⟨j, hj⟩
    rw [sw_get hi hp] at hj
    split at hj
    · exact ⟨i, hx.trans hj⟩
    · split at hj
      · exact ⟨p, hy.trans hj⟩
      · exact ⟨j, hj⟩
  · rintro ⟨j, hj⟩
    by_cases h1 : j = p
    · subst h1
      by_cases h2 : j = i
      · subst h2; exact ⟨j, by rw [sw_get hi hp, if_pos rfl, ← hx, hj]⟩
      · exact ⟨i, by rw [sw_get hi hp, if_neg (fun e => h2 e.symm), if_pos rfl, ← hy, hj]⟩
    · by_cases h2 : j = i
      · subst h2; exact ⟨p, by rw [sw_get hi hp, if_pos rfl, ← hx, hj]⟩
      · exact ⟨j, by rw [sw_get hi hp, if_neg h1, if_neg h2, hj]⟩

theorem up_step {zs : List It} {i : Nat} {x y : It} (h : UpI zs i) (hi0 : 0 < i) (hx : zs[i]? = some x) (hy : zs[(i - 1) / 2]? = some y) (hlt : itlt x y = true) : UpI ((zs.set i y).set ((i - 1) / 2) x) ((i - 1) / 2) := by
  have hi := (List.getElem?_eq_some_iff.1 hx).1
  have hp := (List.getElem?_eq_some_iff.1 hy).1
  have hpi : (i - 1) / 2 < i := by omega
  have hxy := lt_le hlt
  generalize hpe : (i - 1) / 2 = p at *
  refine ⟨fun j hj hjp u v hu hv => ?_, fun j hj hjp hp0 u v hu hv => ?_⟩
  · rw [sw_get hi hp] at hu hv
    rw [if_neg hjp] at hv
    by_cases hji : j = i
    · subst hji
      rw [if_pos rfl] at hv
      rw [if_pos hpe] at hu
      cases hv; cases hu
      exact hxy
    · rw [if_neg hji] at hv
      by_cases h1 : (j - 1) / 2 = p
      · rw [if_pos h1] at hu
        cases hu
        exact le_trans' hxy (h.rest j hj hji y v (by rw [h1]; exact hy) hv)
      · rw [if_neg h1] at hu
        by_cases h2 : (j - 1) / 2 = i
        · rw [if_pos h2] at hu
          cases hu
          exact h.over j hj h2 hi0 y v (by rw [hpe]; exact hy) hv
        · rw [if_neg h2] at hu
          exact h.rest j hj hji u v hu hv
  · rw [sw_get hi hp] at hu hv
    rw [if_neg (by omega), if_neg (by omega)] at hu
    have hup : itlt y u = false := h.rest p hp0 (by omega) u y hu hy
    rw [if_neg (by omega)] at hv
    by_cases hji : j = i
    · rw [if_pos hji] at hv; cases hv; exact hup
    · rw [if_neg hji] at hv
      exact le_trans' hup (h.rest j hj hji y v (by rw [hjp]; exact hy) hv)
theorem up_end {zs : List It} {i : Nat} {x : It} (h : UpI zs i) (hx : zs[i]? = some x) (he : i = 0 ∨ ∃ y, zs[(i - 1) / 2]? = some y ∧ itlt x y = false) : HOk zs := by
  intro j hj
  by_cases hji : j = i
  · subst hji
    rcases he with rfl | ⟨y, hy, hn⟩
    · omega
    · intro u v hu hv
      rw [hy] at hu; rw [hx] at hv; cases hu; cases hv
      exact hn
  · exact h.rest j hj hji
theorem down_step {zs : List It} {i k : Nat} {x y : It} (h : DownI zs i) (hk0 : 0 < k) (hki : (k - 1) / 2 = i) (hx : zs[i]? = some x) (hy : zs[k]? = some y) (hlt : itlt y x = true)
    (hmin : ∀ s, 0 < s → (s - 1) / 2 = i → ∀ v, zs[s]? = some v → itlt v y = false) : DownI ((zs.set i y).set k x) k := by
  have hi := (List.getElem?_eq_some_iff.1 hx).1
  have hk := (List.getElem?_eq_some_iff.1 hy).1
  have hyx := lt_le hlt
  refine ⟨fun j hj hjk u v hu hv => ?_, fun j hj hjk hk0' u v hu hv => ?_⟩
  · rw [sw_get hi hk] at hu hv
    rw [if_neg hjk] at hu
    by_cases h1 : j = k
    · subst h1
      rw [if_pos rfl] at hv
      rw [if_pos hki] at hu
      cases hu; cases hv
      exact hyx
    · rw [if_neg h1] at hv
      by_cases h2 : j = i
      · subst h2
        rw [if_pos rfl] at hv
        cases hv
        rw [if_neg (by omega)] at hu
        exact h.over k hk0 hki (by omega) u y hu hy
      · rw [if_neg h2] at hv
        by_cases h3 : (j - 1) / 2 = i
        · rw [if_pos h3] at hu
          cases hu
          exact hmin j hj h3 v hv
        · rw [if_neg h3] at hu
          exact h.rest j hj h3 u v hu hv
  · rw [sw_get hi hk] at hu hv
    rw [hki, if_neg (by omega), if_pos rfl] at hu
    cases hu
    rw [if_neg (by omega), if_neg (by omega)] at hv
    exact h.rest j hj (by omega) y v (by rw [hjk]; exact hy) hv
theorem down_end {zs : List It} {i : Nat} {x : It} (h : DownI zs i) (hx : zs[i]? = some x) (hmin : ∀ s, 0 < s → (s - 1) / 2 = i → ∀ v, zs[s]? = some v → itlt v x = false) : HOk zs := by
  intro j hj
  by_cases h1 : (j - 1) / 2 = i
  · intro u v hu hv
    rw [h1, hx] at hu; cases hu
    exact hmin j hj h1 v hv
  · exact h.rest j hj h1
/-- The first one is the least. -/
theorem HOk.min {zs : List It} (h : HOk zs) {r : It} (hr : zs[0]? = some r) : ∀ (j : Nat) (u : It), zs[j]? = some u → itlt u r = false := by
  intro j
  induction j using Nat.strongRecOn with
  | ind j ih =>
    intro u hu
    by_cases hj : j = 0
    · subst hj; rw [hr] at hu; cases hu; exact itlt_irr _
    · have hlt := (List.getElem?_eq_some_iff.1 hu).1
      have hp : (j - 1) / 2 < zs.length := by omega
      exact le_trans' (ih ((j - 1) / 2) (by omega) _ (List.getElem?_eq_getElem hp)) (h j (by omega) _ u (List.getElem?_eq_getElem hp) hu)

/-- The row's own, and the numbers' places. -/
structure Places (f : Int → Option Int) (zs : List It) (i : Nat) : Prop where
  at_ : ∀ (j : Nat) (z : It), j ≠ i → zs[j]? = some z → f z.id = some (j : Int)
  dom : ∀ v k, f v = some k → ∃ z ∈ zs, z.id = v
structure PlacesAll (f : Int → Option Int) (zs : List It) : Prop where
  at_ : ∀ (j : Nat) z, zs[j]? = some z → f z.id = some (j : Int)
  dom : ∀ v k, f v = some k → ∃ z ∈ zs, z.id = v
theorem PlacesAll.one {f : Int → Option Int} {zs : List It} (h : PlacesAll f zs) : One zs := by
  intro x hx y hy e
  obtain ⟨i, hi⟩ := List.mem_iff_getElem?.1 hx
  obtain ⟨j, hj⟩ := List.mem_iff_getElem?.1 hy
  have h1 := h.at_ i x hi
  have h2 := h.at_ j y hj
  rw [e, h2] at h1
  have : j = i := by have := Option.some.inj h1; omega
  subst this
  rw [hi] at hj; exact Option.some.inj hj
theorem Places.swap {f : Int → Option Int} {zs : List It} {i p : Nat} (h : Places f zs i) {x y : It} (hx : zs[i]? = some x) (hy : zs[p]? = some y) (hip : i ≠ p) : Places (fun v => if v = y.id then some (i : Int) else f v) ((zs.set i y).set p x) p := by
  have hi := (List.getElem?_eq_some_iff.1 hx).1
  have hp := (List.getElem?_eq_some_iff.1 hy).1
  refine ⟨fun j z hj hz => ?_, fun v k hv => ?_⟩
  · rw [sw_get hi hp, if_neg hj] at hz
    by_cases h1 : j = i
    · rw [if_pos h1] at hz; cases hz; simp [h1]
    · rw [if_neg h1] at hz
      have h2 := h.at_ j z h1 hz
      have : z.id ≠ y.id := fun e => by
        have h3 := h.at_ p y (Ne.symm hip) hy
        rw [← e, h2] at h3
        have := Option.some.inj h3; omega
      simp [this, h2]
  · replace hv : (if v = _ then _ else f v) = some k := hv
    by_cases h1 : v = y.id
    · exact ⟨y, (sw_mem hx hy y).2 (List.mem_of_getElem? hy), h1.symm⟩
    · rw [if_neg h1] at hv
      obtain ⟨z, hz, e⟩ := h.dom v k hv
      exact ⟨z, (sw_mem hx hy z).2 hz, e⟩
theorem Places.done {f : Int → Option Int} {zs : List It} {i : Nat} (h : Places f zs i) {x : It} (hx : zs[i]? = some x) (hnd : ∀ (j : Nat) (z : It), j ≠ i → zs[j]? = some z → z.id ≠ x.id) : PlacesAll (fun v => if v = x.id then some (i : Int) else f v) zs := by
  refine ⟨fun j z hz => ?_, fun v k hv => ?_⟩
  · by_cases h1 : j = i
    · subst h1; rw [hx] at hz; cases hz; simp
    · have := h.at_ j z h1 hz
      simp [hnd j z h1 hz, this]
  · replace hv : (if v = _ then _ else f v) = some k := hv
    by_cases h1 : v = x.id
    · exact ⟨x, List.mem_of_getElem? hx, h1.symm⟩
    · rw [if_neg h1] at hv; exact h.dom v k hv
/-- No number stands at two places. -/
def Apart (zs : List It) : Prop := ∀ (i j : Nat) (x y : It), zs[i]? = some x → zs[j]? = some y → x.id = y.id → i = j
theorem Apart.one {zs : List It} (h : Apart zs) : One zs := by
  intro x hx y hy e
  obtain ⟨i, hi⟩ := List.mem_iff_getElem?.1 hx
  obtain ⟨j, hj⟩ := List.mem_iff_getElem?.1 hy
  have := h i j x y hi hj e
  subst this
  rw [hi] at hj; exact Option.some.inj hj
theorem PlacesAll.apart {f : Int → Option Int} {zs : List It} (h : PlacesAll f zs) : Apart zs := by
  intro i j x y hi hj e
  have h1 := h.at_ i x hi
  have h2 := h.at_ j y hj
  rw [e, h2] at h1
  have := Option.some.inj h1; omega
theorem Apart.swap {zs : List It} (h : Apart zs) {i p : Nat} {x y : It} (hx : zs[i]? = some x) (hy : zs[p]? = some y) : Apart ((zs.set i y).set p x) := by
  have hi := (List.getElem?_eq_some_iff.1 hx).1
  have hp := (List.getElem?_eq_some_iff.1 hy).1
  have back : ∀ (j : Nat) (u : It), ((zs.set i y).set p x)[j]? = some u → ∃ j', zs[j']? = some u ∧ ((j = p ∧ j' = i) ∨ (j ≠ p ∧ j = i ∧ j' = p) ∨ (j ≠ p ∧ j ≠ i ∧ j' = j)) := by
    intro j u hu
    rw [sw_get hi hp] at hu
    by_cases h1 : j = p
    · rw [if_pos h1] at hu; exact ⟨i, hx.trans hu, .inl ⟨h1, rfl⟩⟩
    · rw [if_neg h1] at hu
      by_cases h2 : j = i
      · rw [if_pos h2] at hu; exact ⟨p, hy.trans hu, .inr (.inl ⟨h1, h2, rfl⟩)⟩
      · rw [if_neg h2] at hu; exact ⟨j, hu, .inr (.inr ⟨h1, h2, rfl⟩)⟩
  intro a b u v hu hv e
  obtain ⟨a', ha, hac⟩ := back a u hu
  obtain ⟨b', hb, hbc⟩ := back b v hv
  have := h a' b' u v ha hb e
  omega
end Go.Den
