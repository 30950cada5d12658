/-
  The program's Find and Far.
-/
import Derived.Test.YtadacfoiphklgaaMqSeek
import Derived.Test.YtadacfoiphklgaaMpWit
namespace Go.Proofs.Ytadacfoiphklgaa
open Go Go.Den

theorem own_cell {w : World} {g : Nat} {e : TypeId} {v : Value} (h : Own w g e [v]) : w.cell? ⟨g, 0, none⟩ = some v := by rw [h.cell]; rfl

theorem Find_c1_i {b1 b2 b3 b4 : Nat} {v d to most st : Int} {fd : Bool} {w : World} {K : Bool → World → Prop} (o1 : Own w b1 tInt [.int .i64 to]) (o2 : Own w b2 tInt [.int .i64 most]) (o3 : Own w b3 tInt [.int .i64 st]) (o4 : Own w b4 tBool [.bool fd])
    (h1 : b1 ≠ b3) (h2 : b2 ≠ b3) (h3 : b3 ≠ b4) (h4 : b1 ≠ b4) (h5 : b2 ≠ b4) (hst : -1000000 < st ∧ st < 2000000)
    (hK : ∀ w', Own w' b1 tInt [.int .i64 to] → Own w' b2 tInt [.int .i64 most] → Own w' b3 tInt [.int .i64 (st - 1)] → Own w' b4 tBool [.bool (decide (v = to) && decide (d ≤ most))] → Mod (fun b => b = b3 ∨ b = b4) w w' → K (decide (v = to) || decide (st - 1 = 0)) w') :
    F_witness_Find_c1 v d (some ⟨b3, 0, none⟩) (some ⟨b1, 0, none⟩) (some ⟨b2, 0, none⟩) (some ⟨b4, 0, none⟩) w K := by
  unfold F_witness_Find_c1
  refine onSome_i rfl (ld1_i (k := .int .i64) st (own_cell o3) (onSome_i rfl ?_))
  rw [w64 (by omega) (by omega)]
  refine storeD1_i o3 size_Int (by simp) rfl rfl fun w1 p3 m1 _ => ?_
  have p1 := o1.mod m1 h1
  have p2 := o2.mod m1 h2
  have p4 := o4.mod m1 (Ne.symm h3)
  have p3' : Own w1 b3 tInt [.int .i64 (st - 1)] := p3
  refine onSome_i rfl (ld1_i (k := .int .i64) to (own_cell p1) ?_)
  refine cond_i (fun he => ?_) (fun he => ?_)
  · have he' : v = to := by simpa using he
    refine onSome_i rfl (ld1_i (k := .int .i64) most (own_cell p2) (onSome_i rfl ?_))
    refine storeD1_i p4 size_Bool (by simp) rfl rfl fun w2 q4 m2 _ => ?_
    refine onSome_i rfl (ld1_i (k := .int .i64) to (own_cell (p1.mod m2 h4)) ?_)
    refine cond_i (fun _ => ?_) (fun h => by rw [he] at h; cases h)
    have := hK w2 (p1.mod m2 h4) (p2.mod m2 h5) (p3'.mod m2 h3) (by simpa [he'] using q4) ((m1.mono fun b _ h => .inl h).tr (m2.mono fun b _ h => .inr h))
    simpa [he'] using this
  · have he' : v ≠ to := by simpa using he
    refine onSome_i rfl ?_
    refine storeD1_i p4 size_Bool (by simp) rfl rfl fun w2 q4 m2 _ => ?_
    refine onSome_i rfl (ld1_i (k := .int .i64) to (own_cell (p1.mod m2 h4)) ?_)
    refine cond_i (fun h => by rw [he] at h; cases h) (fun _ => ?_)
    refine onSome_i rfl (ld1_i (k := .int .i64) (st - 1) (own_cell (p3'.mod m2 h3)) ?_)
    have := hK w2 (p1.mod m2 h4) (p2.mod m2 h5) (p3'.mod m2 h3) (by simpa [he'] using q4) ((m1.mono fun b _ h => .inl h).tr (m2.mono fun b _ h => .inr h))
    have e : (decide (v = to) || decide (st - 1 = 0)) = ((st - 1 : Int) == (0 : Int)) := by rw [Bool.eq_iff_iff]; simp [he']
    rw [e] at this; exact this

theorem Find_i {N : NetS} {n : Nat} {L : List Arc} {a to c most settle : Int} {w : World} {Q : Bool → World → Prop} (h : NetIs w N n L) (hs : settle < 1000000) (hQ : ∀ w', Keep w w' → Q (witB n L a to c most settle) w') :
    F_witness_Find (some ⟨N.g, 0, none⟩) a to c most settle w Q := by
  unfold F_witness_Find
  simp only [allocD]
  have k1 := Keep.alloc w (.cells #[Value.int .i64 to] 3)
  have o1 : Own (w.alloc (.cells #[Value.int .i64 to] 3)) w.heap.size tInt [.int .i64 to] := Own.alloc' w _ _
  have z1 : (w.alloc (.cells #[Value.int .i64 to] 3)).heap.size = w.heap.size + 1 := by simp
  generalize w.alloc (.cells #[Value.int .i64 to] 3) = w1 at *
  have k2 := Keep.alloc w1 (.cells #[Value.int .i64 most] 3)
  have o2 : Own (w1.alloc (.cells #[Value.int .i64 most] 3)) w1.heap.size tInt [.int .i64 most] := Own.alloc' w1 _ _
  have z2 : (w1.alloc (.cells #[Value.int .i64 most] 3)).heap.size = w1.heap.size + 1 := by simp
  generalize w1.alloc (.cells #[Value.int .i64 most] 3) = w2 at *
  have k3 := Keep.alloc w2 (.cells #[Value.int .i64 settle] 3)
  have o3 : Own (w2.alloc (.cells #[Value.int .i64 settle] 3)) w2.heap.size tInt [.int .i64 settle] := Own.alloc' w2 _ _
  have z3 : (w2.alloc (.cells #[Value.int .i64 settle] 3)).heap.size = w2.heap.size + 1 := by simp
  generalize w2.alloc (.cells #[Value.int .i64 settle] 3) = w3 at *
  have k4 := Keep.alloc w3 (.cells #[Value.bool false] 4)
  have o4 : Own (w3.alloc (.cells #[Value.bool false] 4)) w3.heap.size tBool [.bool false] := Own.alloc' w3 _ _
  have z4 : (w3.alloc (.cells #[Value.bool false] 4)).heap.size = w3.heap.size + 1 := by simp
  generalize w3.alloc (.cells #[Value.bool false] 4) = w4 at *
  have p3 := o3.mod k4 id
  have p2 := (o2.mod k3 id).mod k4 id
  have p1 := ((o1.mod k2 id).mod k3 id).mod k4 id
  have K4 : Keep w w4 := ((k1.tr k2).tr k3).tr k4
  have h4 := h.keep K4
  generalize hb1 : w.heap.size = b1 at *
  generalize hb2 : w1.heap.size = b2 at *
  generalize hb3 : w2.heap.size = b3 at *
  generalize hb4 : w3.heap.size = b4 at *
  have no : ∀ {w' : World}, Keep w w' → Own w' b4 tBool [.bool false] → witB n L a to c most settle = false → storeD Try.prog tBool ⟨b4, 0, none⟩ (.bool false) w' fun w'' => ld1 .bool w'' ⟨b4, 0, none⟩ fun b => Q b w'' := fun {w'} k o hf => by
    refine storeD1_i o size_Bool (by simp) rfl rfl fun w'' o'' m'' _ => ?_
    refine ld1_i (k := .bool) false (own_cell o'') ?_
    rw [← hf]
    exact hQ w'' (k.fresh m'' fun b e => by rw [show b = b4 from e]; omega)
  refine witness_has_i h4 fun r1 hr1 => ?_
  refine cond_i (fun hb => no K4 o4 ?_) (fun hb => ?_)
  · unfold witB
    have : ¬ (0 ≤ a ∧ a < n) := fun h => by rw [hr1.2 h] at hb; cases hb
    simp only [this, decide_false, Bool.false_and]
  have ha := hr1.1 (by cases r1 <;> simp at hb ⊢)
  refine ld1_i (k := .int .i64) to (own_cell p1) ?_
  refine witness_has_i h4 fun r2 hr2 => ?_
  refine cond_i (fun hb => no K4 o4 ?_) (fun hb => ?_)
  · unfold witB
    have : ¬ (0 ≤ to ∧ to < n) := fun h => by rw [hr2.2 h] at hb; cases hb
    simp only [this, decide_false, Bool.false_and, Bool.and_false]
  have ht := hr2.1 (by cases r2 <;> simp at hb ⊢)
  refine cond_i (fun he => no K4 o4 ?_) (fun hne => ?_)
  · have : a = c := by simpa using he
    unfold witB
    simp [this]
  have hac : a ≠ c := by simpa using hne
  refine ld1_i (k := .int .i64) settle (own_cell p3) ?_
  have e0 : witB n L a to c most settle = fndB (settled n L c a) to most settle := by
    unfold witB
    rw [decide_eq_true ha, decide_eq_true ht, decide_eq_true hac]; rfl
  refine cond_d (fun hlt => no K4 o4 ?_) (fun hge => ?_)
  · rw [e0]
    unfold fndB
    rw [show settle.toNat = 0 by omega]; rfl
  have hnl := h4.sz
  have hsl := settled_len h4.ok c ha.1 ha.2
  refine seek_i h4 ha.1 ha.2 (D := fun b => b = b3 ∨ b = b4)
    (C := fun k w' => k ≤ n ∧ Own w' b1 tInt [.int .i64 to] ∧ Own w' b2 tInt [.int .i64 most] ∧ Own w' b3 tInt [.int .i64 (settle - k)] ∧ Own w' b4 tBool [.bool (foundF (settled n L c a) to most k)])
    (stop := stopF (settled n L c a) to settle) (fun b hb => by omega) (fun b hb hd => by have := h.at_.lt hb; omega) ⟨Nat.zero_le _, p1, p2, by simpa using p3, o4⟩
    (fun k wa wb ⟨hk, q1, q2, q3, q4⟩ m => ⟨hk, q1.mod m (by omega), q2.mod m (by omega), q3.mod m (by omega), q4.mod m (by omega)⟩) ?_ ?_
  · intro k x wa K ⟨hk, q1, q2, q3, q4⟩ hx hK
    have hkl := (List.getElem?_eq_some_iff.1 hx).1
    refine callV_i S_witness_Find_c1 (by kernel_rfl) (first := #[]) (decK_intro (ks := [.c (.int .i64), .c (.int .i64), .c .ptr, .c .ptr, .c .ptr, .c .ptr]) (t := (x.id, x.key, some ⟨b3, 0, none⟩, some ⟨b1, 0, none⟩, some ⟨b2, 0, none⟩, some ⟨b4, 0, none⟩, ())) ?_)
    show F_witness_Find_c1 x.id x.key (some ⟨b3, 0, none⟩) (some ⟨b1, 0, none⟩) (some ⟨b2, 0, none⟩) (some ⟨b4, 0, none⟩) wa fun r w' => K (.bool r) w'
    refine Find_c1_i q1 q2 q3 q4 (by omega) (by omega) (by omega) (by omega) (by omega) ⟨by omega, by omega⟩ fun wb r1 r2 r3 r4 m => ?_
    have e1 : (decide (x.id = to) || decide (settle - (k : Int) - 1 = 0)) = stopF (settled n L c a) to settle k := by
      unfold stopF; rw [hx]
      have : decide (settle - (k : Int) - 1 = 0) = decide (settle = (k : Int) + 1) := by
        apply decide_eq_decide.2; omega
      simp only [this]
    rw [e1]
    refine hK wb ⟨by omega, r1, r2, ?_, ?_⟩ m
    · have : settle - (k : Int) - 1 = settle - ((k + 1 : Nat) : Int) := by omega
      rw [← this]; exact r3
    · have : foundF (settled n L c a) to most (k + 1) = (decide (x.id = to) && decide (x.key ≤ most)) := by rw [foundF_succ, hx]
      rw [this]; exact r4
  · intro m w11 ⟨hk, q1, q2, q3, q4⟩ m11 hml hst hend
    have hfound := found_end (most := most) (settled_One h4.ok c ha.1 ha.2) (settled_nodup h4.ok c ha.1 ha.2) (by omega) hml hst hend
    rw [hfound] at q4
    refine ld1_i (k := .bool) _ (own_cell q4) ?_
    refine storeD1_i q4 size_Bool (by simp) rfl rfl fun w12 o12 m12 _ => ?_
    refine ld1_i (k := .bool) _ (own_cell o12) ?_
    rw [← e0]
    exact hQ w12 ((K4.fresh m11 fun b hb => by omega).fresh m12 fun b e => by rw [show b = b4 from e]; omega)

theorem Find_none {a to c most settle : Int} {w : World} {Q : Bool → World → Prop} (hQ : ∀ w', Keep w w' → Q false w') : F_witness_Find none a to c most settle w Q := by
  unfold F_witness_Find
  simp only [allocD]
  have k1 := Keep.alloc w (.cells #[Value.int .i64 to] 3)
  generalize w.alloc (.cells #[Value.int .i64 to] 3) = w1 at *
  have k2 := Keep.alloc w1 (.cells #[Value.int .i64 most] 3)
  generalize w1.alloc (.cells #[Value.int .i64 most] 3) = w2 at *
  have k3 := Keep.alloc w2 (.cells #[Value.int .i64 settle] 3)
  generalize w2.alloc (.cells #[Value.int .i64 settle] 3) = w3 at *
  have k4 := Keep.alloc w3 (.cells #[Value.bool false] 4)
  have o4 : Own (w3.alloc (.cells #[Value.bool false] 4)) w3.heap.size tBool [.bool false] := Own.alloc' w3 _ _
  generalize w3.alloc (.cells #[Value.bool false] 4) = w4 at *
  have K3 : Keep w w3 := (k1.tr k2).tr k3
  have K4 : Keep w w4 := K3.tr k4
  refine witness_has_none ?_
  refine cond_i (fun _ => ?_) (fun h => by simp at h)
  refine storeD1_i o4 size_Bool (by simp) rfl rfl fun w5 o5 m5 _ => ?_
  refine ld1_i (k := .bool) false (own_cell o5) (hQ w5 (K4.fresh m5 fun b e => by rw [show b = w3.heap.size from e]; exact K3.size))

/-- What Far knows behind k of them. -/
def farF (s : List It) (to : Int) : Nat → Int × Bool
  | 0 => (0, false)
  | k + 1 => match s[k]? with | some x => if x.id = to then (x.key, true) else farF s to k | none => farF s to k
theorem farF_succ (s : List It) (to : Int) (k : Nat) : farF s to (k + 1) = match s[k]? with | some x => if x.id = to then (x.key, true) else farF s to k | none => farF s to k := rfl
theorem farF_not {s : List It} {to : Int} : ∀ {k : Nat}, k ≤ s.length → (∀ j x, j < k → s[j]? = some x → x.id ≠ to) → farF s to k = (0, false)
  | 0, _, _ => rfl
  | k + 1, hk, h => by
    rw [farF_succ]
    have hx := List.getElem?_eq_getElem (show k < s.length by omega)
    rw [hx]
    simp only [if_neg (h k _ (by omega) hx)]
    exact farF_not (by omega) fun j x hj => h j x (by omega)

end Go.Proofs.Ytadacfoiphklgaa
