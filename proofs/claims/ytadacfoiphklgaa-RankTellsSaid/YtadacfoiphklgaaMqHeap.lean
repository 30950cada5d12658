/-
  The program's heap: what Push and Pop do.
-/
import Derived.Test.YtadacfoiphklgaaFHeap
import Derived.Test.YtadacfoiphklgaaIdsM
import Derived.Test.YtadacfoiphklgaaMqNet
import Derived.Test.YtadacfoiphklgaaMpHeap
namespace Go.Proofs.Ytadacfoiphklgaa
open Go Go.Den

abbrev eIt (x : It) : List Value := [.int .i64 x.id, .int .i64 x.key]
abbrev itV (x : It) : Value := .agg #[.int .i64 x.id, .int .i64 x.key]
abbrev tupI (x : It) : Int × Int × Unit := (x.id, x.key, ())
theorem lenIt : ∀ x : It, (eIt x).length = 2 := fun _ => rfl
theorem oneIt : ∀ x : It, ∀ u ∈ eIt x, u.oneCell' = true := by intro x u hu; simp at hu; rcases hu with rfl | rfl <;> rfl
theorem eIt_ne (x : It) : eIt x ≠ [] := by simp
abbrev ekI : Int → Value := fun n => .int .i64 n
abbrev knI : Knd := .c (.int .i64)

theorem par {i : Nat} (h0 : 0 < i) (h1 : i < 4611686018427387904) : IntKind.wrap .i64 (Int.tdiv (IntKind.wrap .i64 ((i : Int) - 1)) 2) = (((i - 1) / 2 : Nat) : Int) := by
  rw [w64 (n := (i : Int) - 1) (by omega) (by omega)]
  have e : ((i : Int) - 1) = ((i - 1 : Nat) : Int) := by omega
  have e2 : Int.tdiv ((i - 1 : Nat) : Int) 2 = (((i - 1) / 2 : Nat) : Int) := by
    rw [Int.tdiv_eq_ediv_of_nonneg (by omega)]; omega
  rw [e, e2, w64 (by omega) (by omega)]
theorem item_store {w : World} {g : Nat} {cs : List Value} {x : It} {K : World → Prop} (h : Own w g tItem cs) (hl : cs.length = 2) (hK : ∀ w', Own w' g tItem (eIt x) → Mod (fun k => k = g) w w' → K w') :
    storeD Try.prog tItem ⟨g, 0, none⟩ (itV x) w K := by
  refine storeD_i h size_Item (by simp [Value.cells, hl]) (by simp [Value.cells, Value.oneCell']) fun w' ho hm _ => hK w' ?_ hm
  have : cs.take 0 ++ (itV x).cells.toList ++ cs.drop (0 + (itV x).cells.size) = eIt x := by
    simp [Value.cells, List.drop_of_length_le (show cs.length ≤ 2 by omega)]
  rwa [this] at ho
theorem own_it {w : World} {g : Nat} {x : It} (h : Own w g tItem (eIt x)) : HoldsAt w ⟨g, 0, none⟩ 0 (encs [.int .i64, .int .i64] (tupI x)) := h.holds fun j v hj => by rw [Nat.zero_add]; exact hj
theorem rd_it {w : World} {s : Sl} {xs : List It} (h : Rd w s 2 eIt xs) {i : Nat} {x : It} (hx : xs[i]? = some x) : ∃ a, s.b = some a ∧ HoldsAt w (a.add (i * 2)) 0 (encs [.int .i64, .int .i64] (tupI x)) := h.get i x hx

theorem ahead_i {x y : It} {w : World} {Q : Bool → World → Prop} (hQ : ∀ w', Keep w w' → Q (itlt x y) w') : F_heap_item_ahead (tupI x) (tupI y) w Q := by
  unfold F_heap_item_ahead
  simp only [allocD]
  have o1 : Own (w.alloc (.cells #[.int .i64 x.id, .int .i64 x.key] tItem)) w.heap.size tItem (eIt x) := Own.alloc' w _ _
  have k1 := Keep.alloc w (.cells #[.int .i64 x.id, .int .i64 x.key] tItem)
  have hs1 : (w.alloc (.cells #[.int .i64 x.id, .int .i64 x.key] tItem)).heap.size = w.heap.size + 1 := by simp
  generalize w.alloc (.cells #[.int .i64 x.id, .int .i64 x.key] 93) = w1 at *
  have o2 : Own (w1.alloc (.cells #[.int .i64 y.id, .int .i64 y.key] tItem)) w1.heap.size tItem (eIt y) := Own.alloc' w1 _ _
  have k2 := Keep.alloc w1 (.cells #[.int .i64 y.id, .int .i64 y.key] tItem)
  have o1' := o1.mod k2 id
  generalize w1.alloc (.cells #[.int .i64 y.id, .int .i64 y.key] 93) = w2 at *
  have x0 : w2.cell? ((⟨w.heap.size, 0, none⟩ : Addr).add 0) = some (.int .i64 x.id) := by rw [addr_lit, o1'.cell]; rfl
  have x1 : w2.cell? ((⟨w.heap.size, 0, none⟩ : Addr).add 1) = some (.int .i64 x.key) := by rw [addr_lit, o1'.cell]; rfl
  have y0 : w2.cell? ((⟨w1.heap.size, 0, none⟩ : Addr).add 0) = some (.int .i64 y.id) := by rw [addr_lit, o2.cell]; rfl
  have y1 : w2.cell? ((⟨w1.heap.size, 0, none⟩ : Addr).add 1) = some (.int .i64 y.key) := by rw [addr_lit, o2.cell]; rfl
  have hk := k1.tr k2
  refine ld1_i (k := .int .i64) x.key x1 (ld1_i (k := .int .i64) y.key y1 ?_)
  refine cond_d (fun h => ?_) (fun h => ?_)
  · have : itlt x y = true := itlt_iff.2 (.inl h)
    rw [← this]; exact hQ w2 hk
  · refine ld1_i (k := .int .i64) x.key x1 (ld1_i (k := .int .i64) y.key y1 ?_)
    refine cond_i (fun he => ?_) (fun he => ?_)
    · have he' : x.key = y.key := by simpa using he
      refine ld1_i (k := .int .i64) x.id x0 (ld1_i (k := .int .i64) y.id y0 ?_)
      have : itlt x y = decide (x.id < y.id) := by unfold itlt; simp [he']
      rw [← this]; exact hQ w2 hk
    · have he' : x.key ≠ y.key := by simpa using he
      have : itlt x y = false := by
        have : ¬ itlt x y = true := by rw [itlt_iff]; omega
        simpa using this
      rw [← this]; exact hQ w2 hk

/-! ### What stands in memory -/

structure HS where
  g : Nat
  r : Nat
  s : Sl
def HS.has (H : HS) (k : Nat) : Prop := k = H.g ∨ k = H.r ∨ ∃ a, H.s.b = some a ∧ k = a.block
structure HAt (w : World) (H : HS) (xs : List It) (f : Int → Option Int) : Prop where
  head : Own w H.g tHeap [sv H.s, .map (some H.r)]
  vec : Vec w tItem 2 eIt H.s xs
  map : ∃ n, MapF w H.r ekI knI f n
  gr : H.g ≠ H.r
  sg : ∀ a, H.s.b = some a → a.block ≠ H.g
  sr : ∀ a, H.s.b = some a → a.block ≠ H.r

section
variable {w : World} {H : HS} {xs : List It} {f : Int → Option Int}
theorem HAt.lt (h : HAt w H xs f) {k : Nat} (hk : H.has k) : k < w.heap.size := by
  rcases hk with rfl | rfl | ⟨a, ha, rfl⟩
  · exact h.head.lt
  · obtain ⟨n, hm⟩ := h.map; exact hm.lt
  · exact h.vec.lt ha
theorem HAt.mod {F : Nat → Prop} {w' : World} (h : HAt w H xs f) (m : Mod F w w') (hF : ∀ k, H.has k → ¬ F k) : HAt w' H xs f :=
  ⟨h.head.mod m (hF _ (.inl rfl)), h.vec.mod m fun a ha => hF _ (.inr (.inr ⟨a, ha, rfl⟩)), by obtain ⟨n, hm⟩ := h.map; exact ⟨n, hm.mod m (hF _ (.inr (.inl rfl)))⟩, h.gr, h.sg, h.sr⟩
theorem HAt.keep {w' : World} (h : HAt w H xs f) (k : Keep w w') : HAt w' H xs f := h.mod k fun _ _ => id
theorem HAt.c0 (h : HAt w H xs f) : w.cell? ((⟨H.g, 0, none⟩ : Addr).add 0) = some (sv H.s) := by rw [addr_lit, h.head.cell]; rfl
theorem HAt.c1 (h : HAt w H xs f) : w.cell? ((⟨H.g, 0, none⟩ : Addr).add 1) = some (.map (some H.r)) := by rw [addr_lit, h.head.cell]; rfl
theorem HAt.base (h : HAt w H xs f) {i : Nat} (hi : i < xs.length) : ∃ b, H.s.b = some b := by
  obtain ⟨a, ha, _⟩ := (h.vec.rd lenIt).get i xs[i] (List.getElem?_eq_getElem hi)
  exact ⟨a, ha⟩

theorem set_i {i : Nat} {x : It} {Q : World → Prop} (h : HAt w H xs f) (hi : i < xs.length)
    (hQ : ∀ w', HAt w' H (xs.set i x) (fun v => if v = x.id then some (i : Int) else f v) → Mod H.has w w' → Q w') : F_heap_Heap_set (some ⟨H.g, 0, none⟩) (i : Int) (tupI x) w Q := by
  unfold F_heap_Heap_set
  simp only [allocD]
  have o1 : Own (w.alloc (.cells #[.int .i64 x.id, .int .i64 x.key] tItem)) w.heap.size tItem (eIt x) := Own.alloc' w _ _
  have k1 := Keep.alloc w (.cells #[.int .i64 x.id, .int .i64 x.key] tItem)
  generalize w.alloc (.cells #[.int .i64 x.id, .int .i64 x.key] 93) = w1 at *
  have k1d : Keep w w1.drew := k1.drew
  have o1d : Own w1.drew w.heap.size tItem (eIt x) := o1
  have h1 := h.keep k1d
  have hl := h1.vec.len
  obtain ⟨b, hb⟩ := h1.base hi
  have hbw : b.block < w.heap.size := h.lt (.inr (.inr ⟨b, hb, rfl⟩))
  refine onSome_i rfl (ld1_i (k := .slice) H.s h1.c0 (onSome_i rfl (ld1_i (k := .map) (some H.r) h1.c1 ?_)))
  refine ld1_i (k := .int .i64) x.id (by rw [addr_lit, o1d.cell]; rfl) (ldN_i (tupI x) (own_it o1d) ?_)
  refine ⟨⟨by omega, by omega⟩, onSome_i hb ?_⟩
  rw [Int.toNat_natCast]
  refine h1.vec.store lenIt hb hi x (v := itV x) rfl size_Item (oneIt x) fun w2 v2 m2 z2 => ?_
  refine ⟨by rw [addr_lit, (o1d.mod m2 (by omega)).cell]; rfl, ?_⟩
  obtain ⟨n, hm⟩ := h1.map
  refine entry_i (kn := knI) und_mIntInt keyInt (z := (0 : Int)) zero_int (hm.mod m2 (Ne.symm (h.sr b hb))) x.id (i : Int) fun w3 hm3 m3 _ => ?_
  refine hQ w3 ⟨(h1.head.mod m2 (Ne.symm (h.sg b hb))).mod m3 h.gr, v2.mod m3 fun a ha => h.sr a ha, ⟨_, hm3⟩, h.gr, h.sg, h.sr⟩ ?_
  exact (k1d.wk.trans m2 fun k _ hk => .inr (.inr ⟨b, hb, hk⟩)).trans m3 fun k _ hk => .inr (.inl hk)
end

theorem up_i {w : World} {H : HS} {ys : List It} {f : Int → Option Int} {i : Nat} {Q : World → Prop} (h : HAt w H ys f) (hi : i < ys.length) (hlen : ys.length < 4611686018427387904) (hu : UpI ys i) (hp : Places f ys i) (ha : Apart ys)
    (hQ : ∀ w' zs f', HAt w' H zs f' → HOk zs → PlacesAll f' zs → (∀ u, u ∈ zs ↔ u ∈ ys) → zs.length = ys.length → Mod H.has w w' → Q w') : F_heap_Heap_up (some ⟨H.g, 0, none⟩) (i : Int) w Q := by
  unfold F_heap_Heap_up
  have hl := h.vec.len
  obtain ⟨x, hx⟩ : ∃ x, ys[i]? = some x := ⟨_, List.getElem?_eq_getElem hi⟩
  obtain ⟨b, hb, hh⟩ := rd_it (h.vec.rd lenIt) hx
  refine onSome_i rfl (ld1_i (k := .slice) H.s h.c0 ⟨⟨by omega, by omega⟩, onSome_i hb ?_⟩)
  rw [Int.toNat_natCast]
  refine ldN_i (tupI x) hh ?_
  simp only [allocD]
  have k1 := Keep.alloc w (.cells #[.int .i64 0, .int .i64 0] tItem)
  have o1 : Own (w.alloc (.cells #[.int .i64 0, .int .i64 0] tItem)) w.heap.size tItem (eIt ⟨0, 0⟩) := Own.alloc' w _ _
  generalize w.alloc (.cells #[Value.int .i64 0, Value.int .i64 0] 93) = w1 at *
  refine item_store (x := x) o1 rfl fun w2 o2 m2 => ?_
  have k2 : Keep w w2 := Mod.fresh k1 m2 fun k hk => by omega
  generalize hb3 : w.heap.size = b3 at *
  have hHb : ∀ k, H.has k → ¬ k = b3 := fun k hk e => by have := h.lt hk; omega
  have z0 : ys.set i x = ys := by
    apply List.ext_getElem?; intro j; rw [List.getElem?_set]
    by_cases e : i = j
    · subst e; rw [if_pos rfl, if_pos hi, hx]
    · rw [if_neg e]
  refine loop_i (fun c t w3 => ∃ (i' : Nat) (ys' : List It) (f' : Int → Option Int), c = i' ∧ t = ((i' : Int), ()) ∧ HAt w3 H ys' f' ∧ i' < ys'.length ∧ ys'.length = ys.length ∧ UpI (ys'.set i' x) i' ∧ Places f' (ys'.set i' x) i' ∧ Apart (ys'.set i' x) ∧
      (∀ u, u ∈ ys'.set i' x ↔ u ∈ ys) ∧ Own w3 b3 tItem (eIt x) ∧ Mod H.has w w3) i
    ⟨i, ys, f, rfl, rfl, h.keep k2, hi, rfl, by rw [z0]; exact hu, by rw [z0]; exact hp, by rw [z0]; exact ha, by rw [z0]; exact fun _ => Iff.rfl, o2, k2.wk⟩ ?_
  rintro i t w3 ⟨_, ys', f', rfl, rfl, h3, hi3, hl3, hu3, hp3, ha3, hm3, o3, m3⟩ X hX
  dsimp only
  have hzi : (ys'.set i x)[i]? = some x := by rw [List.getElem?_set, if_pos rfl, if_pos hi3]
  have finish : ∀ {w4 : World}, Keep w3 w4 → UpI (ys'.set i x) i → HOk (ys'.set i x) → F_heap_Heap_set (some ⟨H.g, 0, none⟩) (i : Int) (tupI x) w4 Q := fun {w4} k4 _ hok => by
    refine set_i (x := x) (h3.keep k4) hi3 fun w5 h5 m5 => ?_
    refine hQ w5 _ _ h5 hok (hp3.done hzi fun j z hj hz e => hj (ha3 j i z x hz hzi e)) hm3 (by rw [List.length_set]; exact hl3) ((m3.tr k4.wk).tr m5)
  have d3 : Keep w3 w3.drew := Mod.drew (Mod.refl _ w3)
  refine cond_d (fun hpos => ?_) (fun hneg => ?_)
  · have hi0 : 0 < i := by omega
    have hpi : (i - 1) / 2 < i := by omega
    obtain ⟨y, hy⟩ : ∃ y, ys'[(i - 1) / 2]? = some y := ⟨_, List.getElem?_eq_getElem (by omega)⟩
    have hzp : (ys'.set i x)[(i - 1) / 2]? = some y := by rw [List.getElem?_set, if_neg (by omega)]; exact hy
    have hpar := par hi0 (by omega)
    have h3d := h3.keep d3
    have hsl := h3d.vec.len
    obtain ⟨b', hb', hh'⟩ := rd_it (h3d.vec.rd lenIt) hy
    refine ldN_i (tupI x) (own_it (o3.mod d3 id)) (onSome_i rfl (ld1_i (k := .slice) H.s h3d.c0 ⟨by decide, ?_⟩))
    rw [hpar, Int.toNat_natCast]
    refine ⟨⟨by omega, by omega⟩, onSome_i hb' (ldN_i (tupI y) hh' ?_)⟩
    refine ahead_i (x := x) (y := y) fun w4 k4 => ?_
    have k34 := d3.tr k4
    have h4 := h3.keep k34
    refine cond_i (fun hlt => ?_) (fun hge => ?_)
    · obtain ⟨b', hb', hh'⟩ := rd_it (h4.vec.rd lenIt) hy
      refine onSome_i rfl (ld1_i (k := .slice) H.s h4.c0 ⟨by decide, ⟨by omega, by omega⟩, onSome_i hb' (ldN_i (tupI y) hh' ?_)⟩)
      refine set_i (x := y) h4 hi3 fun w5 h5 m5 => ⟨by decide, ?_⟩
      have hss : ((ys'.set i x).set i y).set ((i - 1) / 2) x = (ys'.set i y).set ((i - 1) / 2) x := by rw [List.set_set]
      have hst := up_step hu3 hi0 hzi hzp hlt
      have hps := hp3.swap hzi hzp (by omega)
      have has := ha3.swap hzi hzp
      have hms := sw_mem hzi hzp
      rw [hss] at hst hps has
      simp only [hss] at hms
      exact hX ((i - 1) / 2) _ _ (by omega) ⟨(i - 1) / 2, ys'.set i y, _, rfl, rfl, h5, by rw [List.length_set]; omega, by rw [List.length_set]; exact hl3, hst, hps, has, fun u => (hms u).trans (hm3 u), (o3.mod k34 id).mod m5 fun hk => hHb _ hk rfl, (m3.tr k34.wk).tr m5⟩
    · exact ldN_i (tupI x) (own_it (o3.mod k34 id)) (finish k34 hu3 (up_end hu3 hzi (.inr ⟨y, hzp, hge⟩)))
  · exact ldN_i (tupI x) (own_it (o3.mod d3 id)) (finish d3 hu3 (up_end hu3 hzi (.inl (by omega))))

theorem down_i {w : World} {H : HS} {ys : List It} {f : Int → Option Int} {Q : World → Prop} (h : HAt w H ys f) (hi : 0 < ys.length) (hlen : ys.length < 2305843009213693952) (hu : DownI ys 0) (hp : Places f ys 0) (ha : Apart ys)
    (hQ : ∀ w' zs f', HAt w' H zs f' → HOk zs → PlacesAll f' zs → (∀ u, u ∈ zs ↔ u ∈ ys) → zs.length = ys.length → Mod H.has w w' → Q w') : F_heap_Heap_down (some ⟨H.g, 0, none⟩) 0 w Q := by
  unfold F_heap_Heap_down
  have hl := h.vec.len
  obtain ⟨x, hx⟩ : ∃ x, ys[0]? = some x := ⟨_, List.getElem?_eq_getElem hi⟩
  obtain ⟨b, hb, hh⟩ := rd_it (h.vec.rd lenIt) hx
  refine onSome_i rfl (ld1_i (k := .slice) H.s h.c0 ⟨⟨by omega, by omega⟩, onSome_i hb ?_⟩)
  refine ldN_i (tupI x) hh ?_
  simp only [allocD]
  have k1 := Keep.alloc w (.cells #[.int .i64 0, .int .i64 0] tItem)
  have o1 : Own (w.alloc (.cells #[.int .i64 0, .int .i64 0] tItem)) w.heap.size tItem (eIt ⟨0, 0⟩) := Own.alloc' w _ _
  generalize w.alloc (.cells #[Value.int .i64 0, Value.int .i64 0] 93) = w1 at *
  refine item_store (x := x) o1 rfl fun w2 o2 m2 => ?_
  have k2 : Keep w w2 := Mod.fresh k1 m2 fun k hk => by omega
  generalize hb3 : w.heap.size = b3 at *
  have hHb : ∀ k, H.has k → ¬ k = b3 := fun k hk e => by have := h.lt hk; omega
  have z0 : ys.set 0 x = ys := by
    apply List.ext_getElem?; intro j; rw [List.getElem?_set]
    by_cases e : 0 = j
    · subst e; rw [if_pos rfl, if_pos hi, hx]
    · rw [if_neg e]
  refine loop_i (fun c t w3 => ∃ (i' : Nat) (ys' : List It) (f' : Int → Option Int), c = ys.length - i' ∧ t = ((i' : Int), ()) ∧ HAt w3 H ys' f' ∧ i' < ys'.length ∧ ys'.length = ys.length ∧ DownI (ys'.set i' x) i' ∧ Places f' (ys'.set i' x) i' ∧ Apart (ys'.set i' x) ∧
      (∀ u, u ∈ ys'.set i' x ↔ u ∈ ys) ∧ Own w3 b3 tItem (eIt x) ∧ Mod H.has w w3) ys.length
    ⟨0, ys, f, rfl, rfl, h.keep k2, hi, rfl, by rw [z0]; exact hu, by rw [z0]; exact hp, by rw [z0]; exact ha, by rw [z0]; exact fun _ => Iff.rfl, o2, k2.wk⟩ ?_
  rintro c t w3 ⟨i, ys', f', hci, rfl, h3, hi3, hl3, hu3, hp3, ha3, hm3, o3, m3⟩ X hX
  subst hci
  dsimp only
  have hzi : (ys'.set i x)[i]? = some x := by rw [List.getElem?_set, if_pos rfl, if_pos hi3]
  have zne : ∀ j, j ≠ i → (ys'.set i x)[j]? = ys'[j]? := fun j hj => by rw [List.getElem?_set, if_neg (Ne.symm hj)]
  have hzl : (ys'.set i x).length = ys.length := by rw [List.length_set]; exact hl3
  have d3 : Keep w3 w3.drew := Mod.drew (Mod.refl _ w3)
  have finish : ∀ {w4 : World}, Keep w3 w4 → HOk (ys'.set i x) → F_heap_Heap_set (some ⟨H.g, 0, none⟩) (i : Int) (tupI x) w4 Q := fun {w4} k4 hok => by
    refine set_i (x := x) (h3.keep k4) hi3 fun w5 h5 m5 => ?_
    refine hQ w5 _ _ h5 hok (hp3.done hzi fun j z hj hz e => hj (ha3 j i z x hz hzi e)) hm3 hzl ((m3.tr k4.wk).tr m5)
  have e1 : IntKind.wrap .i64 (IntKind.wrap .i64 ((2 : Int) * (i : Int)) + 1) = ((2 * i + 1 : Nat) : Int) := by
    rw [w64 (n := (2 : Int) * (i : Int)) (by omega) (by omega), w64 (by omega) (by omega)]; omega
  have e2 : IntKind.wrap .i64 (((2 * i + 1 : Nat) : Int) + 1) = ((2 * i + 2 : Nat) : Int) := by
    rw [w64 (by omega) (by omega)]; omega
  intro J hJ
  -- the lesser child is known
  have after : ∀ (k : Nat) (w4 : World), Keep w3 w4 → (k = 2 * i + 1 ∨ k = 2 * i + 2) → (ys.length ≤ k → ys.length ≤ 2 * i + 1) → (∀ y, ys'[k]? = some y → ∀ s, 0 < s → (s - 1) / 2 = i → ∀ v, ys'[s]? = some v → itlt v y = false) → J ((k : Int), ()) w4 := by
    intro k w4 k4 hk hkl hmin
    apply hJ
    dsimp only
    have d4 : Keep w4 w4.drew := Mod.drew (Mod.refl _ w4)
    have k4d := k4.tr d4
    have h4 := h3.keep k4d
    have hsl := h4.vec.len
    refine onSome_i rfl (ld1_i (k := .slice) H.s h4.c0 ?_)
    refine cond_d (fun hge => ?_) (fun hlt => ?_)
    · refine ldN_i (tupI x) (own_it (o3.mod k4d id)) (finish k4d (down_end hu3 hzi fun s hs hsi v hv => ?_))
      have hs1 := (List.getElem?_eq_some_iff.1 hv).1
      have := hkl (by omega)
      omega
    · have hkl' : k < ys'.length := by omega
      obtain ⟨y, hy⟩ : ∃ y, ys'[k]? = some y := ⟨_, List.getElem?_eq_getElem hkl'⟩
      have hki : k ≠ i := by omega
      have hzk : (ys'.set i x)[k]? = some y := by rw [zne k hki]; exact hy
      have hminz : ∀ s, 0 < s → (s - 1) / 2 = i → ∀ v, (ys'.set i x)[s]? = some v → itlt v y = false := fun s hs hsi v hv => by
        rw [zne s (by omega)] at hv; exact hmin y hy s hs hsi v hv
      obtain ⟨b', hb', hh'⟩ := rd_it (h4.vec.rd lenIt) hy
      have bnd : 0 ≤ (k : Int) ∧ (k : Int) < (H.s.l : Int) := ⟨by omega, by omega⟩
      rw [Int.toNat_natCast]
      refine onSome_i rfl (ld1_i (k := .slice) H.s h4.c0 ⟨bnd, onSome_i hb' (ldN_i (tupI y) hh' (ldN_i (tupI x) (own_it (o3.mod k4d id)) ?_))⟩)
      refine ahead_i (x := y) (y := x) fun w6 k6 => ?_
      have k46 := k4d.tr k6
      have h6 := h3.keep k46
      refine cond_i (fun hb => ?_) (fun hb => ?_)
      · have hge : itlt y x = false := by simpa using hb
        exact ldN_i (tupI x) (own_it (o3.mod k46 id)) (finish k46 (down_end hu3 hzi fun s hs hsi v hv => le_trans' hge (hminz s hs hsi v hv)))
      · have hlt' : itlt y x = true := by simpa using hb
        obtain ⟨b', hb', hh'⟩ := rd_it (h6.vec.rd lenIt) hy
        refine onSome_i rfl (ld1_i (k := .slice) H.s h6.c0 ⟨bnd, onSome_i hb' (ldN_i (tupI y) hh' ?_)⟩)
        refine set_i (x := y) h6 hi3 fun w8 h8 m8 => ?_
        have hss : ((ys'.set i x).set i y).set k x = (ys'.set i y).set k x := by rw [List.set_set]
        have hst := down_step hu3 (by omega) (by omega) hzi hzk hlt' hminz
        have hps := hp3.swap hzi hzk (Ne.symm hki)
        have has := ha3.swap hzi hzk
        have hms := sw_mem hzi hzk
        rw [hss] at hst hps has
        simp only [hss] at hms
        exact hX (ys.length - k) _ _ (by omega) ⟨k, ys'.set i y, _, rfl, rfl, h8, by rw [List.length_set]; omega, by rw [List.length_set]; exact hl3, hst, hps, has, fun u => (hms u).trans (hm3 u), (o3.mod k46 id).mod m8 fun hk => hHb _ hk rfl, (m3.tr k46.wk).tr m8⟩
  have h3d := h3.keep d3
  have hsl := h3d.vec.len
  refine onSome_i rfl (ld1_i (k := .slice) H.s h3d.c0 ?_)
  rw [e1, e2]
  refine cond_d (fun hlt => ?_) (fun hge => ?_)
  · have hk2 : 2 * i + 2 < ys'.length := by omega
    obtain ⟨u, hu'⟩ : ∃ u, ys'[2 * i + 2]? = some u := ⟨_, List.getElem?_eq_getElem hk2⟩
    obtain ⟨v, hv'⟩ : ∃ v, ys'[2 * i + 1]? = some v := ⟨_, List.getElem?_eq_getElem (by omega)⟩
    obtain ⟨b1, hb1, hh1⟩ := rd_it (h3d.vec.rd lenIt) hu'
    obtain ⟨b2, hb2, hh2⟩ := rd_it (h3d.vec.rd lenIt) hv'
    rw [Int.toNat_natCast, Int.toNat_natCast]
    refine onSome_i rfl (ld1_i (k := .slice) H.s h3d.c0 ⟨⟨by omega, by omega⟩, onSome_i hb1 (ldN_i (tupI u) hh1 ?_)⟩)
    refine onSome_i rfl (ld1_i (k := .slice) H.s h3d.c0 ⟨⟨by omega, by omega⟩, onSome_i hb2 (ldN_i (tupI v) hh2 ?_)⟩)
    refine ahead_i (x := u) (y := v) fun w9 k9 => ?_
    refine cond_i (fun hb => ?_) (fun hb => ?_)
    · refine after (2 * i + 2) w9 (d3.tr k9) (.inr rfl) (fun h => by omega) fun y hy s hs hsi z hz => ?_
      rw [hu'] at hy; cases hy
      have : s = 2 * i + 1 ∨ s = 2 * i + 2 := by omega
      rcases this with rfl | rfl
      · rw [hv'] at hz; cases hz; exact lt_le hb
      · rw [hu'] at hz; cases hz; exact itlt_irr _
    · refine after (2 * i + 1) w9 (d3.tr k9) (.inl rfl) (fun h => h) fun y hy s hs hsi z hz => ?_
      rw [hv'] at hy; cases hy
      have : s = 2 * i + 1 ∨ s = 2 * i + 2 := by omega
      rcases this with rfl | rfl
      · rw [hv'] at hz; cases hz; exact itlt_irr _
      · rw [hu'] at hz; cases hz; exact hb
  · refine after (2 * i + 1) w3.drew d3 (.inl rfl) (fun h => h) fun y hy s hs hsi z hz => ?_
    have hs1 := (List.getElem?_eq_some_iff.1 hz).1
    have : s = 2 * i + 1 ∨ s = 2 * i + 2 := by omega
    rcases this with rfl | rfl
    · rw [hy] at hz; cases hz; exact itlt_irr _
    · omega
end Go.Proofs.Ytadacfoiphklgaa
