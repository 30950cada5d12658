/-
  The document's heap: a row by key, then by number.
-/
import Derived.Test.YtkghlmaalkmdkaaFHeap
import Derived.Test.YtkghlmaalkmdkaaQ1
import Derived.Test.YtkghlmaalkmdkaaFWit
import Derived.Test.YtkghlmaalkmdkaaQ2
import Derived.Test.YtkghlmaalkmdkaaQ3
import Derived.Test.YtkghlmaalkmdkaaA3
import Derived.Test.YtkghlmaalkmdkaaFL18
namespace Go.Proofs.Ytkghlmaalkmdkaa
open Go Go.Den

structure RHeapIs (w : World) (g : Nat) (s : Sl) (q : List It) : Prop where
  head : Own w g tRHeap [sv s]
  rd : Rd w s 2 eIt q
  sep : ∀ a, s.b = some a → a.block ≠ g ∧ a.block < w.heap.size
  srt : QSrt q
  one : One q
def hhas (g : Nat) (s : Sl) (k : Nat) : Prop := k = g ∨ ∃ a, s.b = some a ∧ k = a.block

theorem key_store0 {w : World} {g : Nat} {cs : List Value} {x : It} {K : World → Prop} (h : Own w g tKey cs) (hl : cs.length = 2) (hK : ∀ w', Own w' g tKey (eIt x) → Mod (fun k => k = g) w w' → K w') :
    storeD Try.prog tKey ⟨g, 0, none⟩ (itV x) w K := by
  refine storeD_i h size_Key (by simp [Value.cells, hl]) (by simp [Value.cells, Value.oneCell']) fun w' ho hm _ => hK w' ?_ hm
  have : cs.take 0 ++ (itV x).cells.toList ++ cs.drop (0 + (itV x).cells.size) = eIt x := by
    simp [Value.cells, List.drop_of_length_le (show cs.length ≤ 2 by omega)]
  rwa [this] at ho
theorem own_key {w : World} {g : Nat} {x : It} (h : Own w g tKey (eIt x)) : HoldsAt w ⟨g, 0, none⟩ 0 (encs [.int .i64, .int .i64] (tupI x)) := h.holds fun j v hj => by rw [Nat.zero_add]; exact hj

section
variable {w : World} {g : Nat} {s : Sl} {q : List It}
theorem RHeapIs.mod {F : Nat → Prop} {w' : World} (h : RHeapIs w g s q) (m : Mod F w w') (hF : ∀ k, hhas g s k → ¬ F k) : RHeapIs w' g s q :=
  ⟨h.head.mod m (hF _ (.inl rfl)), h.rd.mod m eIt_ne fun a ha => hF _ (.inr ⟨a, ha, rfl⟩), fun a ha => ⟨(h.sep a ha).1, Nat.lt_of_lt_of_le (h.sep a ha).2 m.size⟩, h.srt, h.one⟩
theorem RHeapIs.keep {w' : World} (h : RHeapIs w g s q) (k : Keep w w') : RHeapIs w' g s q := h.mod k fun _ _ => id
theorem RHeapIs.lt (h : RHeapIs w g s q) {k : Nat} (hk : hhas g s k) : k < w.heap.size := by
  rcases hk with rfl | ⟨a, ha, rfl⟩
  · exact h.head.lt
  · exact (h.sep a ha).2
theorem RHeapIs.c0 (h : RHeapIs w g s q) : w.cell? ((⟨g, 0, none⟩ : Addr).add 0) = some (sv s) := by rw [addr_lit, h.head.cell]; rfl

theorem RFind_i {vid : Int} {Q : Int → World → Prop} (h : RHeapIs w g s q) (hl : q.length < 1000000) (hno : keyQ q vid = none → Q (-1) w) (hyes : ∀ (j : Nat) y, q[j]? = some y → y.id = vid → Q (j : Int) w) : F_ref4_Heap_Find (some ⟨g, 0, none⟩) vid w Q := by
  unfold F_ref4_Heap_Find
  have sl := h.rd.len
  refine loop_i (fun c t w1 => ∃ (i : Nat), i ≤ q.length ∧ c = q.length - i ∧ t = ((i : Int), ()) ∧ w1 = w ∧ ∀ j y, j < i → q[j]? = some y → y.id ≠ vid) q.length ⟨0, Nat.zero_le _, rfl, rfl, rfl, fun j y hj => by omega⟩ ?_
  rintro c t w1 ⟨i, hi, rfl, rfl, rfl, hn⟩ X hX
  dsimp only
  refine onSome_i rfl (ld1_i (k := .slice) s h.c0 ?_)
  refine cond_d (fun hlt => ?_) (fun hge => ?_)
  · have hget := List.getElem?_eq_getElem (show i < q.length by omega)
    generalize q[i] = y at *
    obtain ⟨p, hp, hh⟩ := rd_it h.rd hget
    rw [Int.toNat_natCast]
    refine onSome_i rfl (ld1_i (k := .slice) s h.c0 ⟨⟨by omega, hlt⟩, onSome_i hp (ld1_i (k := .int .i64) y.id hh.1 ?_)⟩)
    refine cond_i (fun he => hyes i y hget (by simpa using he)) (fun hne => ?_)
    rw [w64 (by omega) (by omega)]
    refine hX (q.length - (i + 1)) _ _ (by omega) ⟨i + 1, by omega, rfl, rfl, rfl, fun j z hj hz => ?_⟩
    rcases Nat.lt_or_ge j i with hh' | hh'
    · exact hn j z hh' hz
    · have : j = i := by omega
      subst this
      rw [hget] at hz; cases hz
      simpa using hne
  · refine hno ?_
    cases hk : keyQ q vid with
    | none => rfl
    | some k =>
      obtain ⟨j, hj⟩ := List.mem_iff_getElem?.1 (keyQ_some hk)
      have := (List.getElem?_eq_some_iff.1 hj).1
      exact absurd rfl (hn j _ (by omega) hj)

/-- A row without one. -/
theorem take_drop_filter {q : List It} (h : One q) (hd : q.Nodup) {j : Nat} {y : It} (hy : q[j]? = some y) : q.take j ++ q.drop (j + 1) = q.filter fun x => decide (x.id ≠ y.id) := by
  have hj := (List.getElem?_eq_some_iff.1 hy).1
  have e : q = q.take j ++ y :: q.drop (j + 1) := by
    have := List.drop_eq_getElem_cons hj
    rw [(List.getElem?_eq_some_iff.1 hy).2] at this
    rw [← this, List.take_append_drop]
  have hd' := hd
  rw [e, List.nodup_append] at hd'
  obtain ⟨_, hd2, hd3⟩ := hd'
  rw [List.nodup_cons] at hd2
  have hne : ∀ x ∈ q, x ≠ y → x.id ≠ y.id := fun x hx hxy e' => hxy (h x hx y (List.mem_of_getElem? hy) e')
  conv => rhs; rw [e]
  rw [List.filter_append, List.filter_cons, if_neg (by simp)]
  congr 1
  · exact (List.filter_eq_self.2 fun x hx => by simpa using hne x (List.mem_of_mem_take hx) fun e' => hd3 x hx y (by simp) e').symm
  · exact (List.filter_eq_self.2 fun x hx => by simpa using hne x (List.mem_of_mem_drop hx) fun e' => hd2.1 (e' ▸ hx)).symm

/-- One is put at its place. -/
theorem ins_take {q : List It} (h : QSrt q) {x : It} {i : Nat} (h1 : ∀ j y, j < i → q[j]? = some y → itlt y x = true) (h2 : ∀ y, q[i]? = some y → itlt y x = false) (hx : x ∉ q) : q.take i ++ [x] ++ q.drop i = insQ q x := by
  have lo : ∀ y ∈ q.take i, itlt y x = true := fun y hy => by
    obtain ⟨j, hj⟩ := List.mem_iff_getElem?.1 hy
    have hlt := (List.getElem?_eq_some_iff.1 hj).1
    rw [List.length_take] at hlt
    rw [List.getElem?_take_of_lt (by omega)] at hj
    exact h1 j y (by omega) hj
  have hi' : ∀ y ∈ q.drop i, itlt y x = false := fun y hy => by
    obtain ⟨j, hj⟩ := List.mem_iff_getElem?.1 hy
    rw [List.getElem?_drop] at hj
    have hlt := (List.getElem?_eq_some_iff.1 hj).1
    have h0 := h2 _ (List.getElem?_eq_getElem (show i < q.length by omega))
    by_cases e : j = 0
    · subst e; rw [Nat.add_zero, List.getElem?_eq_getElem (show i < q.length by omega)] at hj; cases hj; exact h0
    · have h3 := List.pairwise_iff_getElem.1 h i (i + j) (by omega) hlt (by omega)
      have e1 : q[i + j] = y := (List.getElem?_eq_some_iff.1 hj).2
      rw [e1] at h3
      exact le_trans' h0 (lt_le h3)
  obtain ⟨e1, e2⟩ := filter_split (p := fun y => itlt y x) lo hi'
  unfold insQ
  rw [e1, List.append_assoc, List.singleton_append]
  congr 2
  rw [← e2]
  refine List.filter_congr fun y hy => ?_
  rcases itlt_tri y x with h | h | h
  · rw [h, Bool.not_true]
    have := lt_le h
    rw [this]
  · subst h; exact absurd hy hx
  · rw [h, lt_le h]; rfl

theorem put_key {w1 : World} {s5 : Sl} {q' : List It} {K : World → Prop} (o : Own w1 g tRHeap [sv s]) (v : Vec w1 tKey 2 eIt s5 q') (hs : ∀ a, s5.b = some a → a.block ≠ g) (h1 : QSrt q') (h2 : One q')
    (hK : ∀ w', RHeapIs w' g s5 q' → Mod (fun k => k = g) w1 w' → K w') : storeD Try.prog tsKey ((⟨g, 0, none⟩ : Addr).add 0) (.slice s5.b s5.l s5.c) w1 K := by
  rw [addr_lit]
  refine storeD1_i o size_sKey (by simp) rfl rfl fun w' o' m' _ => hK w' ⟨o', (v.mod m' hs).rd lenIt, fun a ha => ⟨hs a ha, (v.mod m' hs).lt ha⟩, h1, h2⟩ m'

theorem RPush_i {vid key : Int} {Q : Bool → World → Prop} (h : RHeapIs w g s q) (hlen : q.length < 100000)
    (hQ : ∀ w' s', RHeapIs w' g s' (pushQ q vid key).1 → Mod (fun k => k = g) w w' → (∀ k, hhas g s' k → hhas g s k ∨ w.heap.size ≤ k) → Q (pushQ q vid key).2 w') : F_ref4_Heap_Push (some ⟨g, 0, none⟩) vid key w Q := by
  unfold F_ref4_Heap_Push
  have hgl := h.head.lt
  have sl := h.rd.len
  -- put into what holds it not
  have core : ∀ (w2 : World) (s2 : Sl) (q2 : List It), RHeapIs w2 g s2 q2 → q2.length < 100000 → (∀ y ∈ q2, y.id ≠ vid) → Mod (fun k => k = g) w w2 → (∀ k, hhas g s2 k → hhas g s k ∨ w.heap.size ≤ k) → lowQ q vid key = false → q2 = (q.filter fun y => decide (y.id ≠ vid)) →
      ∀ J2 : (Int × Unit) → World → Prop, (∀ (i : Nat) (w3 : World), w3 = w2 → i ≤ q2.length → q2.take i ++ [⟨vid, key⟩] ++ q2.drop i = insQ q2 ⟨vid, key⟩ → (
      onSome (some (⟨g, 0, none⟩ : Addr)) fun a1 =>
      ld1 .slice w3.drew (a1.add 0) fun (s1 : Sl) =>
      (0 ≤ (i : Int) ∧ (i : Int) ≤ ((s1.c : Nat) : Int)) ∧
      onSome (some (⟨g, 0, none⟩ : Addr)) fun a2 =>
      ld1 .slice w3.drew (a2.add 0) fun (s2 : Sl) =>
      (0 ≤ (i : Int) ∧ (i : Int) ≤ ((s2.l : Nat) : Int)) ∧
      (allocD w3.drew #[] tKey fun a3 w4 =>
      w4.cell? (a2.add 0) = some (Value.slice s2.b s2.l s2.c) ∧
      w4.cell? (a1.add 0) = some (Value.slice s1.b s1.l s1.c) ∧
      (appendD Try.prog tsKey tsKey ⟨(some a3), 0, 0⟩ (Value.slice (sliceAddr s1.b s1.c 0 2) ((Int.toNat (i : Int)) - 0) (s1.c - 0)) w4 fun (s3 : Sl) w5 =>
      w5.cell? (a2.add 0) = some (Value.slice s2.b s2.l s2.c) ∧
      allocD w5 #[Value.int .i64 vid, Value.int .i64 key] tKey fun a4 w6 =>
      w6.cell? (a2.add 0) = some (Value.slice s2.b s2.l s2.c) ∧
      appendD Try.prog tsKey tsKey s3 (Value.slice (some a4) 1 1) w6 fun (s4 : Sl) w7 =>
      w7.cell? (a2.add 0) = some (Value.slice s2.b s2.l s2.c) ∧
      appendD Try.prog tsKey tsKey s4 (Value.slice (sliceAddr s2.b s2.c (Int.toNat (i : Int)) 2) (s2.l - (Int.toNat (i : Int))) (s2.c - (Int.toNat (i : Int)))) w7 fun (s5 : Sl) w8 =>
      onSome (some (⟨g, 0, none⟩ : Addr)) fun a5 =>
      storeD Try.prog tsKey (a5.add 0) (Value.slice s5.b s5.l s5.c) w8 fun w9 =>
      Q true w9) ∧
      (allocD w4 #[Value.int .i64 vid, Value.int .i64 key] tKey fun a6 w10 =>
      w10.cell? (a2.add 0) = some (Value.slice s2.b s2.l s2.c) ∧
      w10.cell? (a1.add 0) = some (Value.slice s1.b s1.l s1.c) ∧
      appendD Try.prog tsKey tsKey ⟨(some a3), 0, 0⟩ (Value.slice (sliceAddr s1.b s1.c 0 2) ((Int.toNat (i : Int)) - 0) (s1.c - 0)) w10 fun (s6 : Sl) w11 =>
      w11.cell? (a2.add 0) = some (Value.slice s2.b s2.l s2.c) ∧
      appendD Try.prog tsKey tsKey s6 (Value.slice (some a6) 1 1) w11 fun (s7 : Sl) w12 =>
      w12.cell? (a2.add 0) = some (Value.slice s2.b s2.l s2.c) ∧
      appendD Try.prog tsKey tsKey s7 (Value.slice (sliceAddr s2.b s2.c (Int.toNat (i : Int)) 2) (s2.l - (Int.toNat (i : Int))) (s2.c - (Int.toNat (i : Int)))) w12 fun (s8 : Sl) w13 =>
      onSome (some (⟨g, 0, none⟩ : Addr)) fun a7 =>
      storeD Try.prog tsKey (a7.add 0) (Value.slice s8.b s8.l s8.c) w13 fun w14 =>
      Q true w14)) ∧
      (allocD w3.drew #[Value.int .i64 vid, Value.int .i64 key] tKey fun a8 w15 =>
      w15.cell? (a2.add 0) = some (Value.slice s2.b s2.l s2.c) ∧
      w15.cell? (a1.add 0) = some (Value.slice s1.b s1.l s1.c) ∧
      allocD w15 #[] tKey fun a9 w16 =>
      w16.cell? (a2.add 0) = some (Value.slice s2.b s2.l s2.c) ∧
      w16.cell? (a1.add 0) = some (Value.slice s1.b s1.l s1.c) ∧
      appendD Try.prog tsKey tsKey ⟨(some a9), 0, 0⟩ (Value.slice (sliceAddr s1.b s1.c 0 2) ((Int.toNat (i : Int)) - 0) (s1.c - 0)) w16 fun (s9 : Sl) w17 =>
      w17.cell? (a2.add 0) = some (Value.slice s2.b s2.l s2.c) ∧
      appendD Try.prog tsKey tsKey s9 (Value.slice (some a8) 1 1) w17 fun (s10 : Sl) w18 =>
      w18.cell? (a2.add 0) = some (Value.slice s2.b s2.l s2.c) ∧
      appendD Try.prog tsKey tsKey s10 (Value.slice (sliceAddr s2.b s2.c (Int.toNat (i : Int)) 2) (s2.l - (Int.toNat (i : Int))) (s2.c - (Int.toNat (i : Int)))) w18 fun (s11 : Sl) w19 =>
      onSome (some (⟨g, 0, none⟩ : Addr)) fun a10 =>
      storeD Try.prog tsKey (a10.add 0) (Value.slice s11.b s11.l s11.c) w19 fun w20 =>
      Q true w20)) → J2 ((i : Int), ()) w3) → ∀ X1 : (Int × Unit) → World → Prop, (∀ (t3 : Int × Unit) (w21 : World), (
  onSome (some (⟨g, 0, none⟩ : Addr)) fun a11 =>
  ld1 .slice w21 (a11.add 0) fun (s12 : Sl) =>
  cond (decide (t3.1 < ((s12.l : Nat) : Int)))
  (onSome (some (⟨g, 0, none⟩ : Addr)) fun a12 =>
  ld1 .slice w21 (a12.add 0) fun (s13 : Sl) =>
  (0 ≤ t3.1 ∧ t3.1 < ((s13.l : Nat) : Int)) ∧
  onSome s13.b fun a13 =>
  ld1 (.int .i64) w21 ((a13.add (Int.toNat t3.1 * 2)).add 1) fun (x2 : Int) =>
  cond (decide (x2 < key))
  (X1 ((IntKind.wrap .i64 (t3.1 + (1 : Int))), ()) w21)
  (onSome (some (⟨g, 0, none⟩ : Addr)) fun a14 =>
  ld1 .slice w21 (a14.add 0) fun (s14 : Sl) =>
  (0 ≤ t3.1 ∧ t3.1 < ((s14.l : Nat) : Int)) ∧
  onSome s14.b fun a15 =>
  ld1 (.int .i64) w21 ((a15.add (Int.toNat t3.1 * 2)).add 1) fun (x3 : Int) =>
  cond (x3 == key)
  (onSome (some (⟨g, 0, none⟩ : Addr)) fun a16 =>
  ld1 .slice w21 (a16.add 0) fun (s15 : Sl) =>
  (0 ≤ t3.1 ∧ t3.1 < ((s15.l : Nat) : Int)) ∧
  onSome s15.b fun a17 =>
  ld1 (.int .i64) w21 ((a17.add (Int.toNat t3.1 * 2)).add 0) fun (x4 : Int) =>
  cond (decide (x4 < vid))
  (X1 ((IntKind.wrap .i64 (t3.1 + (1 : Int))), ()) w21)
  (J2 (t3.1, ()) w21))
  (J2 (t3.1, ()) w21)))
  (J2 (t3.1, ()) w21)) → X1 t3 w21) →
  X1 ((0 : Int), ()) w2 := by
    intro w2 s2 q2 h2 hl2 hno2 m2 f2 hlow hq2 J2 hJ2
    have sl2 := h2.rd.len
    have hxn : (⟨vid, key⟩ : It) ∉ q2 := fun hx => hno2 _ hx rfl
    have hcap := h2.rd.cap
    -- what is put
    have goJ : ∀ (i : Nat), i ≤ q2.length → (∀ j y, j < i → q2[j]? = some y → itlt y ⟨vid, key⟩ = true) → (∀ y, q2[i]? = some y → itlt y ⟨vid, key⟩ = false) → J2 ((i : Int), ()) w2 := by
      intro i hi hbefore hat
      have hins := ins_take h2.srt hbefore hat hxn
      refine hJ2 i w2 rfl hi hins ?_
      have dD : Keep w2 w2.drew := Mod.drew (Mod.refl _ w2)
      have hd := h2.keep dD
      have hp : (pushQ q vid key) = (insQ q2 ⟨vid, key⟩, true) := by unfold pushQ; rw [hlow, if_neg (by simp), hq2]
      have hp1 : (pushQ q vid key).1 = insQ q2 ⟨vid, key⟩ := by rw [hp]
      have hp2 : (pushQ q vid key).2 = true := by rw [hp]
      rw [hp1, hp2] at hQ
      have hone : One (insQ q2 ⟨vid, key⟩) := by
        rw [← hp1]; exact push_one h.one vid key
      have hgl2 := h2.head.lt
      -- the last three steps
      have last : ∀ {wx : World} {r : Sl} {b : Nat}, Keep w2 wx → Vec wx tKey 2 eIt r (q2.take i) → (∀ a, r.b = some a → w2.heap.size ≤ a.block) → Own wx b tKey (eIt ⟨vid, key⟩) → w2.heap.size ≤ b → (∀ a, r.b = some a → a.block ≠ b) →
          appendD Try.prog tsKey tsKey r (Value.slice (some ⟨b, 0, none⟩) 1 1) wx fun (s4 : Sl) w7 =>
          w7.cell? ((⟨g, 0, none⟩ : Addr).add 0) = some (Value.slice s2.b s2.l s2.c) ∧
          appendD Try.prog tsKey tsKey s4 (Value.slice (sliceAddr s2.b s2.c (Int.toNat (i : Int)) 2) (s2.l - (Int.toNat (i : Int))) (s2.c - (Int.toNat (i : Int)))) w7 fun (s5 : Sl) w8 =>
          onSome (some (⟨g, 0, none⟩ : Addr)) fun a5 =>
          storeD Try.prog tsKey (a5.add 0) (Value.slice s5.b s5.l s5.c) w8 fun w9 => Q true w9 := by
        intro wx r b kx vx fx ob hb hne
        have rb : Rd wx ⟨some ⟨b, 0, none⟩, 1, 1⟩ 2 eIt [⟨vid, key⟩] := ⟨rfl, Nat.le_refl _, fun j y hy => by
          have : j = 0 := by have := (List.getElem?_eq_some_iff.1 hy).1; simp at this; exact this
          subst this
          simp at hy; subst hy
          exact ⟨_, rfl, by rw [Nat.zero_mul, add_zero]; exact own_key ob⟩⟩
        have tl : (q2.take i).length ≤ 100000 := by rw [List.length_take]; omega
        refine append_i elem_sKey lenIt oneIt vx rb (by simp only [List.length_singleton]; omega) (by simp only [List.length_singleton]; omega) fun s4 w7 v7 m7 f7 _ => ?_
        have k7 : Keep w2 w7 := kx.fresh m7 fun k ⟨a, ha, e⟩ => by subst e; exact fx a ha
        have h7 := h2.keep k7
        have f7' : ∀ a, s4.b = some a → w2.heap.size ≤ a.block := fun a ha => by
          rcases f7 with e | ⟨a', e, hle⟩
          · exact fx a (e ▸ ha)
          · rw [e] at ha; cases ha; exact Nat.le_trans kx.size hle
        refine ⟨h7.c0, ?_⟩
        have part := h7.rd.part (i := i) (j := s2.l) (c := s2.c) (by omega) (Nat.le_refl _) hcap (Nat.le_refl _)
        rw [List.take_of_length_le (by rw [List.length_drop]; omega)] at part
        rw [Int.toNat_natCast]
        have dl : (q2.drop i).length ≤ 100000 := by rw [List.length_drop]; omega
        have al : (q2.take i ++ [(⟨vid, key⟩ : It)]).length ≤ 100001 := by rw [List.length_append]; simp only [List.length_singleton]; omega
        refine append_i elem_sKey lenIt oneIt v7 part (by omega) (by omega) fun s5 w8 v8 m8 f8 _ => ?_
        have k8 : Keep w2 w8 := k7.fresh m8 fun k ⟨a, ha, e⟩ => by subst e; exact f7' a ha
        have f8' : ∀ a, s5.b = some a → w2.heap.size ≤ a.block := fun a ha => by
          rcases f8 with e | ⟨a', e, hle⟩
          · exact f7' a (e ▸ ha)
          · rw [e] at ha; cases ha; exact Nat.le_trans k7.size hle
        rw [hins] at v8
        refine onSome_i rfl ?_
        refine put_key (h2.keep k8).head v8 (fun a ha => by have := f8' a ha; omega) (QSrt.ins h2.srt _) hone fun w9 h9 m9 => ?_
        refine hQ w9 s5 h9 (m2.tr (k8.wk.tr m9)) fun k hk => ?_
        rcases hk with rfl | ⟨a, ha, rfl⟩
        · exact .inl (.inl rfl)
        · exact .inr (Nat.le_trans m2.size (f8' a ha))
      have headP : ∀ {wx : World}, Keep w2 wx → Rd wx ⟨sliceAddr s2.b s2.c 0 2, i - 0, s2.c - 0⟩ 2 eIt (q2.take i) := fun {wx} kx => by
        have := (h2.keep kx).rd.part (i := 0) (j := i) (c := s2.c) (Nat.zero_le _) (by omega) (by omega) (Nat.le_refl _)
        simpa using this
      have tl : (q2.take i).length ≤ 100000 := by rw [List.length_take]; omega
      have vE : ∀ (wx : World), Vec (wx.alloc (.cells #[] 125)) tKey 2 eIt ⟨some ⟨wx.heap.size, 0, none⟩, 0, 0⟩ [] := fun wx => Vec.lit wx tKey eIt lenIt [] #[] rfl (by simp)
      have c2 : ∀ {wx : World}, Keep w2 wx → wx.cell? ((⟨g, 0, none⟩ : Addr).add 0) = some (Value.slice s2.b s2.l s2.c) := fun {wx} kx => (h2.keep kx).c0
      refine onSome_i rfl (ld1_i (k := .slice) s2 hd.c0 ⟨⟨by omega, by omega⟩, onSome_i rfl (ld1_i (k := .slice) s2 hd.c0 ⟨⟨by omega, by omega⟩, ?_⟩)⟩)
      simp only [allocD]
      rw [Int.toNat_natCast]
      have kA := dD.tr (Keep.alloc w2.drew (.cells #[] 125))
      have vA := vE w2.drew
      have sA : (w2.drew.alloc (.cells #[] 125)).heap.size = w2.heap.size + 1 := by simp
      have szd : w2.drew.heap.size = w2.heap.size := rfl
      constructor
      · generalize w2.drew.alloc (.cells #[] 125) = wA at *
        refine ⟨c2 kA, c2 kA, ?_, ?_⟩
        · refine append_i elem_sKey lenIt oneIt vA (headP kA) (by simp; omega) (by simp; omega) fun s3 w5 v5 m5 f5 _ => ?_
          rw [List.nil_append] at v5
          have k5 : Keep w2 w5 := kA.fresh m5 fun k ⟨a, ha, e⟩ => by cases ha; subst e; rw [szd]; exact Nat.le_refl _
          have f5' : ∀ a, s3.b = some a → w2.heap.size ≤ a.block := fun a ha => by
            rcases f5 with e | ⟨a', e, hle⟩
            · rw [e] at ha; cases ha; rw [szd]; exact Nat.le_refl _
            · rw [e] at ha; cases ha; exact Nat.le_trans kA.size hle
          refine ⟨c2 k5, ?_⟩
          have k6 := k5.tr (Keep.alloc w5 (.cells #[Value.int .i64 vid, Value.int .i64 key] 125))
          have o6 : Own (w5.alloc (.cells #[Value.int .i64 vid, Value.int .i64 key] 125)) w5.heap.size tKey (eIt ⟨vid, key⟩) := Own.alloc' w5 _ _
          have v6 := v5.mod (Keep.alloc w5 (.cells #[Value.int .i64 vid, Value.int .i64 key] 125)) fun _ _ => id
          refine ⟨c2 k6, ?_⟩
          exact last k6 v6 f5' o6 k5.size fun a ha e => by have := v5.lt ha; omega
        · have kB := kA.tr (Keep.alloc wA (.cells #[Value.int .i64 vid, Value.int .i64 key] 125))
          have oB : Own (wA.alloc (.cells #[Value.int .i64 vid, Value.int .i64 key] 125)) wA.heap.size tKey (eIt ⟨vid, key⟩) := Own.alloc' wA _ _
          have vB := vA.mod (Keep.alloc wA (.cells #[Value.int .i64 vid, Value.int .i64 key] 125)) fun _ _ => id
          refine ⟨c2 kB, c2 kB, ?_⟩
          refine append_i elem_sKey lenIt oneIt vB (headP kB) (by simp; omega) (by simp; omega) fun s3 w5 v5 m5 f5 _ => ?_
          rw [List.nil_append] at v5
          have k5 : Keep w2 w5 := kB.fresh m5 fun k ⟨a, ha, e⟩ => by cases ha; subst e; rw [szd]; exact Nat.le_refl _
          have f5' : ∀ a, s3.b = some a → w2.heap.size ≤ a.block ∧ a.block ≠ wA.heap.size := fun a ha => by
            rcases f5 with e | ⟨a', e, hle⟩
            · rw [e] at ha; cases ha; rw [szd]; exact ⟨Nat.le_refl _, by rw [sA]; show w2.heap.size ≠ _; omega⟩
            · rw [e] at ha; cases ha; have := oB.lt; exact ⟨Nat.le_trans kB.size hle, by omega⟩
          refine ⟨c2 k5, ?_⟩
          exact last k5 v5 (fun a ha => (f5' a ha).1) (oB.mod m5 fun ⟨a, ha, e⟩ => by cases ha; have e' : wA.heap.size = w2.heap.size := e; omega) (by omega) fun a ha => (f5' a ha).2
      · have kC := dD.tr (Keep.alloc w2.drew (.cells #[Value.int .i64 vid, Value.int .i64 key] 125))
        have oC : Own (w2.drew.alloc (.cells #[Value.int .i64 vid, Value.int .i64 key] 125)) w2.drew.heap.size tKey (eIt ⟨vid, key⟩) := Own.alloc' w2.drew _ _
        have sC : (w2.drew.alloc (.cells #[Value.int .i64 vid, Value.int .i64 key] 125)).heap.size = w2.heap.size + 1 := by simp
        generalize w2.drew.alloc (.cells #[Value.int .i64 vid, Value.int .i64 key] 125) = wC at *
        have kD := kC.tr (Keep.alloc wC (.cells #[] 125))
        have vD := vE wC
        have oD := oC.mod (Keep.alloc wC (.cells #[] 125)) id
        refine ⟨c2 kC, c2 kC, c2 kD, c2 kD, ?_⟩
        refine append_i elem_sKey lenIt oneIt vD (headP kD) (by simp; omega) (by simp; omega) fun s3 w5 v5 m5 f5 _ => ?_
        rw [List.nil_append] at v5
        have k5 : Keep w2 w5 := kD.fresh m5 fun k ⟨a, ha, e⟩ => by cases ha; subst e; exact kC.size
        have f5' : ∀ a, s3.b = some a → w2.heap.size ≤ a.block ∧ a.block ≠ w2.drew.heap.size := fun a ha => by
          rcases f5 with e | ⟨a', e, hle⟩
          · rw [e] at ha; cases ha; exact ⟨kC.size, by rw [szd]; show wC.heap.size ≠ _; omega⟩
          · rw [e] at ha; cases ha; have := oD.lt; exact ⟨Nat.le_trans kD.size hle, by omega⟩
        refine ⟨c2 k5, ?_⟩
        exact last k5 v5 (fun a ha => (f5' a ha).1) (oD.mod m5 fun ⟨a, ha, e⟩ => by cases ha; rw [szd] at e; have e' : w2.heap.size = wC.heap.size := e; omega) (Nat.le_refl _) fun a ha => (f5' a ha).2
    refine loop_i (fun c t w3 => ∃ (i : Nat), i ≤ q2.length ∧ c = q2.length - i ∧ t = ((i : Int), ()) ∧ w3 = w2 ∧ (∀ j y, j < i → q2[j]? = some y → itlt y ⟨vid, key⟩ = true)) q2.length ⟨0, Nat.zero_le _, rfl, rfl, rfl, fun j y hj => by omega⟩ ?_
    rintro c t w3 ⟨i, hi, rfl, rfl, rfl, hbef⟩ X hX
    dsimp only
    refine onSome_i rfl (ld1_i (k := .slice) s2 h2.c0 ?_)
    refine cond_d (fun hlt => ?_) (fun hge => ?_)
    · have hget := List.getElem?_eq_getElem (show i < q2.length by omega)
      generalize q2[i] = y at *
      obtain ⟨p, hp, hh⟩ := rd_it h2.rd hget
      have bnd : 0 ≤ (i : Int) ∧ (i : Int) < (s2.l : Int) := ⟨by omega, hlt⟩
      have next : itlt y ⟨vid, key⟩ = true → X (IntKind.wrap .i64 ((i : Int) + 1), ()) w3 := fun hy => by
        rw [w64 (by omega) (by omega)]
        refine hX (q2.length - (i + 1)) _ _ (by omega) ⟨i + 1, by omega, rfl, rfl, rfl, fun j z hj hz => ?_⟩
        rcases Nat.lt_or_ge j i with hh' | hh'
        · exact hbef j z hh' hz
        · have : j = i := by omega
          subst this
          rw [hget] at hz; cases hz; exact hy
      have stop : itlt y ⟨vid, key⟩ = false → J2 ((i : Int), ()) w3 := fun hy => goJ i hi hbef fun z hz => by rw [hget] at hz; cases hz; exact hy
      rw [Int.toNat_natCast]
      refine onSome_i rfl (ld1_i (k := .slice) s2 h2.c0 ⟨bnd, onSome_i hp (ld1_i (k := .int .i64) y.key hh.2.1 ?_)⟩)
      refine cond_d (fun h' => next (itlt_iff.2 (.inl h'))) (fun h' => ?_)
      refine onSome_i rfl (ld1_i (k := .slice) s2 h2.c0 ⟨bnd, onSome_i hp (ld1_i (k := .int .i64) y.key hh.2.1 ?_)⟩)
      have hnk : ¬ y.key < key := h'
      refine cond_i (fun he => ?_) (fun hne => ?_)
      · have he' : y.key = key := by simpa using he
        refine onSome_i rfl (ld1_i (k := .slice) s2 h2.c0 ⟨bnd, onSome_i hp (ld1_i (k := .int .i64) y.id hh.1 ?_)⟩)
        refine cond_d (fun h'' => next (itlt_iff.2 (.inr ⟨he', h''⟩))) (fun h'' => stop ?_)
        have hnv : ¬ y.id < vid := h''
        have : ¬ itlt y ⟨vid, key⟩ = true := by rw [itlt_iff]; show ¬ (y.key < key ∨ (y.key = key ∧ y.id < vid)); omega
        simpa using this
      · refine stop ?_
        have hne' : y.key ≠ key := by simpa using hne
        have : ¬ itlt y ⟨vid, key⟩ = true := by rw [itlt_iff]; show ¬ (y.key < key ∨ (y.key = key ∧ y.id < vid)); omega
        simpa using this
    · exact goJ i hi hbef fun z hz => by have := (List.getElem?_eq_some_iff.1 hz).1; omega
  have hfl : (q.filter fun y => decide (y.id ≠ vid)).length < 100000 := Nat.lt_of_le_of_lt (List.length_filter_le _ _) hlen
  have hfn : ∀ y ∈ (q.filter fun y => decide (y.id ≠ vid)), y.id ≠ vid := fun y hy => by simpa using (List.mem_filter.1 hy).2
  refine RFind_i h (by omega) (fun hnone => ?_) (fun j y hy hyid => ?_)
  · intro J1 hJ1
    refine cond_d (fun h => by omega) (fun _ => ?_)
    apply hJ1
    intro J2 hJ2
    have hlow : lowQ q vid key = false := by unfold lowQ; rw [hnone]
    have hself : (q.filter fun y => decide (y.id ≠ vid)) = q := List.filter_eq_self.2 fun y hy => by simpa using keyQ_none hnone y hy
    exact core w s q h hlen (keyQ_none hnone) (Mod.refl _ _) (fun k hk => .inl hk) hlow hself.symm J2 fun i w3 e hi hins body => hJ2 ((i : Int), ()) w3 body
  · intro J1 hJ1
    have hj := (List.getElem?_eq_some_iff.1 hy).1
    have hkq : keyQ q vid = some y.key := by rw [← hyid]; exact keyQ_mem h.one (List.mem_of_getElem? hy)
    obtain ⟨p, hp, hh⟩ := rd_it h.rd hy
    refine cond_d (fun _ => ?_) (fun h => absurd (by omega) h)
    rw [Int.toNat_natCast]
    refine onSome_i rfl (ld1_i (k := .slice) s h.c0 ⟨⟨by omega, by omega⟩, onSome_i hp (ld1_i (k := .int .i64) y.key hh.2.1 ?_)⟩)
    refine cond_d (fun hle => ?_) (fun hgt => ?_)
    · have hlow : lowQ q vid key = true := by unfold lowQ; rw [hkq]; simpa using hle
      have hp : (pushQ q vid key) = (q, false) := by unfold pushQ; rw [hlow, if_pos rfl]
      rw [hp] at hQ
      exact hQ w s h (Mod.refl _ _) fun k hk => .inl hk
    · have hgt' : ¬ y.key ≤ key := hgt
      have hlow : lowQ q vid key = false := by unfold lowQ; rw [hkq]; simpa using hgt'
      have hcap := h.rd.cap
      have dD : Keep w w.drew := Mod.drew (Mod.refl _ w)
      have hd := h.keep dD
      rw [w64 (n := (j : Int) + 1) (by omega) (by omega)]
      refine onSome_i rfl (ld1_i (k := .slice) s hd.c0 ⟨⟨by omega, by omega⟩, onSome_i rfl (ld1_i (k := .slice) s hd.c0 ⟨⟨by omega, by omega⟩, ?_⟩)⟩)
      simp only [allocD]
      have kA := dD.tr (Keep.alloc w.drew (.cells #[] 125))
      have vA : Vec (w.drew.alloc (.cells #[] 125)) tKey 2 eIt ⟨some ⟨w.drew.heap.size, 0, none⟩, 0, 0⟩ [] := Vec.lit w.drew tKey eIt lenIt [] #[] rfl (by simp)
      have szd : w.drew.heap.size = w.heap.size := rfl
      generalize w.drew.alloc (.cells #[] 125) = wA at *
      refine ⟨(h.keep kA).c0, (h.keep kA).c0, ?_⟩
      have tl : (q.take j).length ≤ 100000 := by rw [List.length_take]; omega
      have headP := (h.keep kA).rd.part (i := 0) (j := j) (c := s.c) (Nat.zero_le _) (by omega) (by omega) (Nat.le_refl _)
      rw [List.drop_zero, Nat.sub_zero] at headP
      refine append_i elem_sKey lenIt oneIt vA headP (by simp; omega) (by simp; omega) fun s3 w5 v5 m5 f5 _ => ?_
      rw [List.nil_append] at v5
      have k5 : Keep w w5 := kA.fresh m5 fun k ⟨a, ha, e⟩ => by cases ha; subst e; rw [szd]; exact Nat.le_refl _
      have f5' : ∀ a, s3.b = some a → w.heap.size ≤ a.block := fun a ha => by
        rcases f5 with e | ⟨a', e, hle⟩
        · rw [e] at ha; cases ha; rw [szd]; exact Nat.le_refl _
        · rw [e] at ha; cases ha; exact Nat.le_trans kA.size hle
      refine ⟨(h.keep k5).c0, ?_⟩
      have tj : Int.toNat ((j : Int) + 1) = j + 1 := by omega
      rw [tj]
      have tailP := (h.keep k5).rd.part (i := j + 1) (j := s.l) (c := s.c) (by omega) (Nat.le_refl _) hcap (Nat.le_refl _)
      rw [List.take_of_length_le (by rw [List.length_drop]; omega)] at tailP
      have dl : (q.drop (j + 1)).length ≤ 100000 := by rw [List.length_drop]; omega
      refine append_i elem_sKey lenIt oneIt v5 tailP (by omega) (by omega) fun s20 w24 v24 m24 f24 _ => ?_
      have k24 : Keep w w24 := k5.fresh m24 fun k ⟨a, ha, e⟩ => by subst e; exact f5' a ha
      have f24' : ∀ a, s20.b = some a → w.heap.size ≤ a.block := fun a ha => by
        rcases f24 with e | ⟨a', e, hle⟩
        · exact f5' a (e ▸ ha)
        · rw [e] at ha; cases ha; exact Nat.le_trans k5.size hle
      have hfil := take_drop_filter h.one (qsrt_nodup h.srt) hy
      rw [hfil, hyid] at v24
      refine onSome_i rfl ?_
      refine put_key (h.keep k24).head v24 (fun a ha => by have := f24' a ha; omega) (List.Pairwise.filter _ h.srt) (fun x hx z hz e => h.one x (List.mem_filter.1 hx).1 z (List.mem_filter.1 hz).1 e) fun w25 h25 m25 => ?_
      apply hJ1
      intro J2 hJ2
      refine core w25 s20 _ h25 hfl hfn (k24.wk.tr m25) (fun k hk => ?_) hlow rfl J2 fun i w3 e hi hins body => hJ2 ((i : Int), ()) w3 body
      rcases hk with rfl | ⟨a, ha, rfl⟩
      · exact .inl (.inl rfl)
      · exact .inr (f24' a ha)

theorem RPop_none {Q : (Int × Int × Unit) → Bool → World → Prop} (h : RHeapIs w g s []) (hQ : ∀ w', Keep w w' → Q (0, 0, ()) false w') : F_ref4_Heap_Pop (some ⟨g, 0, none⟩) w Q := by
  unfold F_ref4_Heap_Pop
  simp only [allocD]
  have k1 := Keep.alloc w (.cells #[Value.int .i64 0, Value.int .i64 0] 125)
  have o1 : Own (w.alloc (.cells #[Value.int .i64 0, Value.int .i64 0] 125)) w.heap.size tKey (eIt ⟨0, 0⟩) := Own.alloc' w _ _
  generalize w.alloc (.cells #[Value.int .i64 0, Value.int .i64 0] 125) = w1 at *
  have h1 := h.keep k1
  have sl := h.rd.len
  refine onSome_i rfl (ld1_i (k := .slice) s h1.c0 ?_)
  refine cond_i (fun _ => ?_) (fun h => by rw [sl] at h; simp at h)
  refine key_store0 (x := ⟨0, 0⟩) o1 rfl fun w2 o2 m2 => ?_
  exact ldN_i (tupI ⟨0, 0⟩) (own_key o2) (hQ w2 (Mod.fresh k1 m2 fun k e => by rw [show k = w.heap.size from e]; exact Nat.le_refl _))
theorem RPop_i {x : It} {Q : (Int × Int × Unit) → Bool → World → Prop} (h : RHeapIs w g s (x :: q))
    (hQ : ∀ w' s', RHeapIs w' g s' q → (∀ k, hhas g s' k → hhas g s k) → Mod (fun k => k = g) w w' → Q (x.id, x.key, ()) true w') : F_ref4_Heap_Pop (some ⟨g, 0, none⟩) w Q := by
  unfold F_ref4_Heap_Pop
  simp only [allocD]
  have k1 := Keep.alloc w (.cells #[Value.int .i64 0, Value.int .i64 0] 125)
  have o1 : Own (w.alloc (.cells #[Value.int .i64 0, Value.int .i64 0] 125)) w.heap.size tKey (eIt ⟨0, 0⟩) := Own.alloc' w _ _
  have z1 : (w.alloc (.cells #[Value.int .i64 0, Value.int .i64 0] 125)).heap.size = w.heap.size + 1 := by simp
  generalize w.alloc (.cells #[Value.int .i64 0, Value.int .i64 0] 125) = w1 at *
  have h1 := h.keep k1
  have sl : s.l = q.length + 1 := by rw [h.rd.len]; simp
  have hgl := h.head.lt
  refine onSome_i rfl (ld1_i (k := .slice) s h1.c0 ?_)
  refine cond_i (fun h => by rw [sl] at h; simp at h; omega) (fun _ => ?_)
  obtain ⟨p, hp, hh⟩ := rd_it h1.rd (i := 0) rfl
  refine onSome_i rfl (ld1_i (k := .slice) s h1.c0 ⟨⟨by omega, by omega⟩, onSome_i hp (ldN_i (tupI x) hh ?_)⟩)
  have k3 := Keep.alloc w1 (.cells #[Value.int .i64 0, Value.int .i64 0] 125)
  have o3 : Own (w1.alloc (.cells #[Value.int .i64 0, Value.int .i64 0] 125)) w1.heap.size tKey (eIt ⟨0, 0⟩) := Own.alloc' w1 _ _
  generalize w1.alloc (.cells #[Value.int .i64 0, Value.int .i64 0] 125) = w3 at *
  refine key_store0 (x := x) o3 rfl fun w4 o4 m4 => ?_
  have k4 : Keep w w4 := (k1.tr k3).fresh m4 fun k e => by rw [show k = w1.heap.size from e]; omega
  have h4 := h.keep k4
  have o1' : Own w4 w.heap.size tKey (eIt ⟨0, 0⟩) := (o1.mod k3 id).mod m4 (by omega)
  refine onSome_i rfl (ld1_i (k := .slice) s h4.c0 ⟨⟨by omega, by omega⟩, onSome_i rfl ?_⟩)
  have hcap := h.rd.cap
  have part := h4.rd.part (i := 1) (j := s.l) (c := s.c) (by omega) (Nat.le_refl _) hcap (Nat.le_refl _)
  rw [List.take_of_length_le (by rw [List.length_drop]; simp; omega), List.drop_one, List.tail_cons] at part
  rw [addr_lit]
  have t1 : Int.toNat (1 : Int) = 1 := rfl
  rw [t1]
  refine storeD1_i h4.head size_sKey (by simp) rfl rfl fun w5 o5 m5 _ => ?_
  have sb : ∀ a, sliceAddr s.b s.c 1 2 = some a → ∃ a', s.b = some a' ∧ a.block = a'.block := fun a ha => by
    unfold sliceAddr at ha
    split at ha
    · exact ⟨a, ha, rfl⟩
    · cases hsb : s.b with
      | none => rw [hsb] at ha; cases ha
      | some a' => rw [hsb] at ha; simp at ha; subst ha; exact ⟨a', rfl, add_block _ _⟩
  have h5 : RHeapIs w5 g ⟨sliceAddr s.b s.c 1 2, s.l - 1, s.c - 1⟩ q := ⟨o5, part.mod m5 eIt_ne fun a ha => by obtain ⟨a', h1, h2⟩ := sb a ha; rw [h2]; exact (h4.sep a' h1).1,
    fun a ha => by obtain ⟨a', h1, h2⟩ := sb a ha; rw [h2]; exact ⟨(h4.sep a' h1).1, Nat.lt_of_lt_of_le (h4.sep a' h1).2 m5.size⟩, (List.pairwise_cons.1 h.srt).2, fun u hu v hv => h.one u (by simp [hu]) v (by simp [hv])⟩
  refine ldN_i (tupI x) (own_key (o4.mod m5 (by omega))) ?_
  refine key_store0 (x := x) (o1'.mod m5 (by omega)) rfl fun w6 o6 m6 => ?_
  refine ldN_i (tupI x) (own_key o6) ?_
  refine hQ w6 _ (h5.mod m6 fun k hk e => ?_) (fun k hk => ?_) ((k4.wk.tr m5).trans m6 fun k hk e => by rw [show k = w.heap.size from e] at hk; omega)
  · rw [show k = w.heap.size from e] at hk
    rcases hk with e' | ⟨a, ha, e'⟩
    · omega
    · obtain ⟨a', h1, h2⟩ := sb a ha
      have := (h.sep a' h1).2
      omega
  · rcases hk with rfl | ⟨a, ha, rfl⟩
    · exact .inl rfl
    · obtain ⟨a', h1, h2⟩ := sb a ha
      exact .inr ⟨a', h1, h2⟩
end
end Go.Proofs.Ytkghlmaalkmdkaa

/-
  The document's Witness.
-/
namespace Go.Proofs.Ytkghlmaalkmdkaa
open Go Go.Den

theorem fnd_none {s : List It} {to most settle : Int} (h : ∀ (j : Nat) x, (j : Int) < settle → s[j]? = some x → x.id ≠ to) : fndB s to most settle = false := by
  cases hf : fndB s to most settle with
  | false => rfl
  | true =>
    obtain ⟨i, d, h1, h2, _⟩ := fndB_iff.1 hf
    exact absurd rfl (h i _ h1 h2)
theorem fnd_at {s : List It} {to most settle : Int} (h1 : One s) {k : Nat} {x : It} (hk : (k : Int) < settle) (hx : s[k]? = some x) (he : x.id = to) : fndB s to most settle = decide (x.key ≤ most) := by
  rw [Bool.eq_iff_iff, fndB_iff, decide_eq_true_iff]
  constructor
  · rintro ⟨i, d, _, h2, h3⟩
    have := h1 x (List.mem_of_getElem? hx) _ (List.mem_of_getElem? h2) he
    rw [this]; exact h3
  · intro h3
    exact ⟨k, x.key, hk, by rw [hx, ← he], h3⟩

theorem rWitness_i {w : World} {g : Nat} {s : Sl} {n : Nat} {L : List Arc} {a to c most settle : Int} {Q : Bool → World → Prop} (h : RNetIs w g s n L) (hs : settle < 1000000)
    (hQ : ∀ w', Keep w w' → Q (witB n L a to c most settle) w') : F_ref4_Net_Witness (some ⟨g, 0, none⟩) a to c most settle w Q := by
  unfold F_ref4_Net_Witness
  have hL := h.ok
  have hn := h.sz
  refine onSome_i rfl (ld1_i (k := .int .i64) (n : Int) h.c0 ?_)
  rw [w64 (n := (n : Int) - 1) (by omega) (by omega)]
  refine within_i fun r1 hr1 => ?_
  refine cond_i (fun hb => ?_) (fun hb => ?_)
  · have : ¬ (0 ≤ a ∧ a < n) := fun h => by rw [hr1.2 ⟨h.1, by omega⟩] at hb; cases hb
    have e : witB n L a to c most settle = false := by unfold witB; simp only [this, decide_false, Bool.false_and]
    rw [← e]; exact hQ w (Mod.refl _ _)
  have ha := hr1.1 (by cases r1 <;> simp at hb ⊢)
  have ha0 : 0 ≤ a := ha.1
  have ha1 : a < n := by omega
  refine onSome_i rfl (ld1_i (k := .int .i64) (n : Int) h.c0 ?_)
  rw [w64 (n := (n : Int) - 1) (by omega) (by omega)]
  refine within_i fun r2 hr2 => ?_
  refine cond_i (fun hb => ?_) (fun hb => ?_)
  · have : ¬ (0 ≤ to ∧ to < n) := fun h => by rw [hr2.2 ⟨h.1, by omega⟩] at hb; cases hb
    have e : witB n L a to c most settle = false := by unfold witB; simp only [this, decide_false, Bool.false_and, Bool.and_false]
    rw [← e]; exact hQ w (Mod.refl _ _)
  have ht := hr2.1 (by cases r2 <;> simp at hb ⊢)
  refine cond_i (fun he => ?_) (fun hne => ?_)
  · have : a = c := by simpa using he
    have e : witB n L a to c most settle = false := by unfold witB; simp [this]
    rw [← e]; exact hQ w (Mod.refl _ _)
  have hac : a ≠ c := by simpa using hne
  have e0 : witB n L a to c most settle = fndB (settled n L c a) to most settle := by
    unfold witB
    rw [decide_eq_true (show 0 ≤ a ∧ a < n from ⟨ha0, ha1⟩), decide_eq_true (show 0 ≤ to ∧ to < n from ⟨ht.1, by omega⟩), decide_eq_true hac]; rfl
  rw [e0] at hQ
  simp only [allocD]
  have k1 := Keep.alloc w (.cells #[Value.slice none 0 0] 123)
  have o1 : Own (w.alloc (.cells #[Value.slice none 0 0] 123)) w.heap.size tRHeap [sv ⟨none, 0, 0⟩] := Own.alloc' w _ _
  have z1 : (w.alloc (.cells #[Value.slice none 0 0] 123)).heap.size = w.heap.size + 1 := by simp
  generalize w.alloc (.cells #[Value.slice none 0 0] 123) = w1 at *
  generalize hB : w.heap.size = B at *
  have hH1 : RHeapIs w1 B ⟨none, 0, 0⟩ [] := ⟨o1, Rd.nil _ _ _, (fun a ha => by cases ha), List.Pairwise.nil, (fun x hx => by cases hx)⟩
  refine RPush_i hH1 (by simp) fun w4 sH h4 m4 f4 => ?_
  have hp0 : (pushQ [] a 0).1 = [⟨a, 0⟩] := rfl
  rw [hp0] at h4
  have K4 : Keep w w4 := k1.fresh m4 fun k e => by rw [show k = B from e]; omega
  have fH : ∀ k, hhas B sH k → B ≤ k := fun k hk => (f4 k hk).elim (fun h' => by
    rcases h' with rfl | ⟨a, ha, _⟩
    · exact Nat.le_refl _
    · cases ha) fun h' => by omega
  have hR4 := h.keep K4
  refine onSome_i rfl (ld1_i (k := .int .i64) (n : Int) hR4.c0 ?_)
  refine make_i elem_sBool (enc := eB) false rfl lenB (by omega) (Int.le_refl _) (by omega) (by omega) fun w5 v5 k5 => ?_
  simp only [Int.toNat_natCast] at v5 ⊢
  have h5 := h4.keep k5
  have hsz4 : B ≤ w4.heap.size := hB ▸ K4.size
  generalize hs1 : (⟨some ⟨w4.heap.size, 0, none⟩, n, n⟩ : Sl) = s1 at *
  have s1b : s1.b = some ⟨w4.heap.size, 0, none⟩ := by rw [← hs1]
  have ndH : ∀ k, hhas B sH k → k ≠ w4.heap.size := fun k hk e => by have := h4.lt hk; omega
  generalize hD : w4.heap.size = bD at *
  have hBD : B < bD := by have := h4.head.lt; omega
  refine loop_i (fun cnt t w6 => ∃ (k : Nat) (sH : Sl) (ds : List Bool), cnt = n + 1 - k ∧ t = ((k : Int), ()) ∧ k ≤ n ∧ (runQ L c a k).2.length = k ∧ RHeapIs w6 B sH (runQ L c a k).1 ∧ (∀ b, hhas B sH b → B ≤ b ∧ b ≠ bD) ∧
      Vec w6 tBool 1 eB s1 ds ∧ ds.length = n ∧ (∀ v : Int, 0 ≤ v → v < n → ds[v.toNat]? = some (isIn (runQ L c a k).2 v)) ∧ Keep w w6 ∧ (∀ j x, j < k → (settled n L c a)[j]? = some x → x.id ≠ to)) (n + 1)
    ⟨0, sH, List.replicate n false, rfl, rfl, Nat.zero_le _, rfl, h5, fun b hb => ⟨fH b hb, ndH b hb⟩, v5, by simp, fun v h0 h1 => ?_, K4.tr k5, fun j x hj => by omega⟩ ?_
  · rw [List.getElem?_replicate, if_pos (by omega)]; rfl
  rintro cnt t w6 ⟨k, sH, ds, rfl, rfl, hkn, hkl, h6, fB6, v6, dl, hds, K6, hno⟩ X hX
  have hinv := run_inv hL c ha0 ha1 k
  have hset := run_eq hL c ha0 ha1 k
  have hset1 := run_eq hL c ha0 ha1 (k + 1)
  have hstep : runQ L c a (k + 1) = stepQ L c (runQ L c a k) := rfl
  refine cond_d (fun hlt => ?_) (fun hge => ?_)
  · have hlt' : (k : Int) < settle := hlt
    cases hq : (runQ L c a k).1 with
    | nil =>
      rw [hq] at h6
      have hlen : (settled n L c a).length = k := by
        have h1 := settled_len hL c ha0 ha1
        rcases Nat.lt_or_ge k (settled n L c a).length with hlt2 | hge2
        · have e1 : (runQ L c a (k + 1)).2 = (runQ L c a k).2 := by rw [hstep]; unfold stepQ; rw [hq]
          rw [e1, hset] at hset1
          have := congrArg List.length hset1
          simp only [List.length_take] at this
          omega
        · have := congrArg List.length hset
          simp only [List.length_take] at this
          omega
      refine RPop_none h6 fun w7 k7 => ?_
      have k8 := Keep.alloc w7 (.cells #[Value.int .i64 0, Value.int .i64 0] 125)
      have o8 : Own (w7.alloc (.cells #[Value.int .i64 0, Value.int .i64 0] 125)) w7.heap.size tKey (eIt ⟨0, 0⟩) := Own.alloc' w7 _ _
      refine key_store0 (x := ⟨0, 0⟩) o8 rfl fun w9 o9 m9 => ?_
      refine cond_i (fun _ => ?_) (fun h => by simp at h)
      have e1 : fndB (settled n L c a) to most settle = false := fnd_none fun j x _ hx => hno j x (by have := (List.getElem?_eq_some_iff.1 hx).1; omega) hx
      rw [e1] at hQ
      exact hQ w9 ((K6.tr k7).tr (Mod.fresh k8 m9 fun b e => by rw [show b = w7.heap.size from e]; exact Nat.le_refl _))
    | cons x q =>
      rw [hq] at h6 hinv
      have hxb := hinv.bnd x (by simp)
      have hqlen : q.length ≤ n := by
        have := one_len (qsrt_nodup h6.srt) h6.one (n := n) fun y hy => (hinv.bnd y (by simp [hy])).2.2
        simp at this; omega
      have hkq : k < n := by have := hinv.len_q; omega
      have hst1 : (runQ L c a (k + 1)) = (pushes c ((runQ L c a k).2 ++ [x]) x.key q (outL L x.id), (runQ L c a k).2 ++ [x]) := by
        rw [hstep]; unfold stepQ; rw [hq]
      have hxk : (settled n L c a)[k]? = some x := by
        rw [hst1] at hset1
        have : ((settled n L c a).take (k + 1))[k]? = some x := by
          rw [← hset1, List.getElem?_append_right (by omega), hkl]; simp
        rwa [List.getElem?_take_of_lt (Nat.lt_succ_self k)] at this
      refine RPop_i h6 fun w7 sH7 h7 f7 m7 => ?_
      have K7 : Keep w w7 := K6.fresh m7 fun b e => by rw [show b = B from e]; omega
      have v7 := v6.mod m7 fun b hb e => by rw [s1b] at hb; cases hb; have e' : bD = B := e; omega
      have fB7 : ∀ b, hhas B sH7 b → B ≤ b ∧ b ≠ bD := fun b hb => fB6 b (f7 b hb)
      have k8 := Keep.alloc w7 (.cells #[Value.int .i64 0, Value.int .i64 0] 125)
      have o8 : Own (w7.alloc (.cells #[Value.int .i64 0, Value.int .i64 0] 125)) w7.heap.size tKey (eIt ⟨0, 0⟩) := Own.alloc' w7 _ _
      refine key_store0 (x := x) o8 rfl fun w9 o9 m9 => ?_
      have k79 : Keep w7 w9 := Mod.fresh k8 m9 fun b e => by rw [show b = w7.heap.size from e]; exact Nat.le_refl _
      have K9 := K7.tr k79
      have h9 := h7.keep k79
      have v9 := v7.mod k79 fun _ _ => id
      have hw7B : B ≤ w7.heap.size := hB ▸ K7.size
      have hw7D : bD < w7.heap.size := v7.lt s1b
      have n7 : ∀ b, hhas B sH7 b → b ≠ w7.heap.size := fun b hb e => by have := h7.lt hb; omega
      generalize w7.heap.size = b7 at *
      refine cond_i (fun h => by simp at h) (fun _ => ?_)
      refine ld1_i (k := .int .i64) x.id (by rw [addr_lit, o9.cell]; rfl) ?_
      refine cond_i (fun he => ?_) (fun hne => ?_)
      · have he' : x.id = to := by simpa using he
        refine ld1_i (k := .int .i64) x.key (by rw [addr_lit, o9.cell]; rfl) ?_
        have := fnd_at (most := most) (settled_One hL c ha0 ha1) hlt' hxk he'
        rw [this] at hQ
        exact hQ w9 K9
      · have hne' : x.id ≠ to := by simpa using hne
        refine ld1_i (k := .int .i64) x.id (by rw [addr_lit, o9.cell]; rfl) ?_
        have s1l : s1.l = n := by rw [← hs1]
        refine ⟨⟨hxb.2.2.1, by have := hxb.2.2.2; omega⟩, onSome_i rfl ?_⟩
        refine v9.store lenB s1b (i := x.id.toNat) (by have := hxb.2.2; omega) true rfl size_Bool (oneB true) fun w10 v10 m10 _ => ?_
        have m10' : Mod (fun b => b = bD) w9 w10 := m10
        have K10 : Keep w w10 := K9.fresh m10' fun b e => by rw [show b = bD from e]; omega
        have h10 := h9.mod m10' fun b hb e => (fB7 b hb).2 e
        have o10 := o9.mod m10' (show ¬ b7 = bD by omega)
        have hds1 : ∀ v : Int, 0 ≤ v → v < n → (ds.set x.id.toNat true)[v.toNat]? = some (isIn ((runQ L c a k).2 ++ [x]) v) := fun v h0 h1 => by
          have hi : isIn ((runQ L c a k).2 ++ [x]) v = (isIn (runQ L c a k).2 v || decide (x.id = v)) := by unfold isIn; rw [List.any_append]; simp
          rw [List.getElem?_set, hi]
          by_cases e : x.id = v
          · subst e
            rw [if_pos rfl, if_pos (by omega)]; simp
          · rw [if_neg (by have := hxb.2.2; omega), hds v h0 h1]; simp [e]
        refine ld1_i (k := .int .i64) x.id (by rw [addr_lit, o10.cell]; rfl) ?_
        have hR10 := h.keep K10
        refine rOut_i hR10 (by have := hL.len hn; omega) fun s11 w11 v11 k11 f11 => ?_
        have hol := hL.out_len x.id
        have sl11 := v11.len
        have fr11 : ∀ b, s11.b = some b → ¬ hhas B sH7 b.block := fun b hb hh => by
          have h1 := f11 b hb
          have := h10.lt hh
          omega
        have hw10B : B < w10.heap.size := h10.head.lt
        refine loop_i (fun cnt t w12 => ∃ (i : Nat) (sH' : Sl), i ≤ (outL L x.id).length ∧ cnt = (outL L x.id).length - i ∧ t = ((i : Int), ()) ∧ RHeapIs w12 B sH' (pushes c ((runQ L c a k).2 ++ [x]) x.key q ((outL L x.id).take i)) ∧ (∀ b, hhas B sH' b → B ≤ b ∧ b ≠ bD) ∧
            Vec w12 tBool 1 eB s1 (ds.set x.id.toNat true) ∧ Own w12 b7 tKey (eIt x) ∧ Vec w12 tArc 4 eArc s11 (outL L x.id) ∧ Keep w w12 ∧ w11.heap.size ≤ w12.heap.size) (outL L x.id).length
          ⟨0, sH7, Nat.zero_le _, rfl, rfl, by simpa [pushes] using h10.keep k11, fB7, v10.mod k11 (fun _ _ => id), o10.mod k11 id, v11, K10.tr k11, Nat.le_refl _⟩ ?_
        rintro cnt t w12 ⟨i, sH', hi, rfl, rfl, h12, fB12, v12, o12, u12, K12, z12⟩ Y hY
        refine cond_d (fun hlt3 => ?_) (fun hge3 => ?_)
        · have hi' : i < (outL L x.id).length := by have : (i : Int) < (s11.l : Int) := hlt3; omega
          obtain ⟨p, hp, hh⟩ := rd_tup (u12.rd lenA) (List.getElem?_eq_getElem hi')
          have hmem := List.getElem_mem hi'
          have tk := pushes_snoc c ((runQ L c a k).2 ++ [x]) x.key q ((outL L x.id).take i) ((outL L x.id)[i])
          rw [← List.take_succ_eq_append_getElem hi'] at tk
          generalize (outL L x.id)[i] = e at *
          obtain ⟨heL, hef⟩ := mem_outL.1 hmem
          obtain ⟨_, _, et0, et1, _, ew0, ew1, _⟩ := hL.may e heL
          have bnd : 0 ≤ (i : Int) ∧ (i : Int) < (s11.l : Int) := ⟨by omega, by omega⟩
          have wi : IntKind.wrap .i64 ((i : Int) + 1) = ((i + 1 : Nat) : Int) := by rw [w64 (by omega) (by omega)]; rfl
          have skip : (e.t = c ∨ isIn ((runQ L c a k).2 ++ [x]) e.t = true) → Y (IntKind.wrap .i64 ((i : Int) + 1), ()) w12 := fun hc => by
            rw [wi]
            exact hY _ _ _ (by omega) ⟨i + 1, sH', hi', rfl, rfl, by rw [tk, if_pos hc]; exact h12, fB12, v12, o12, u12, K12, z12⟩
          show (0 ≤ (i : Int) ∧ (i : Int) < (s11.l : Int)) ∧ _
          rw [Int.toNat_natCast]
          refine ⟨bnd, onSome_i hp (ld1_i (k := .int .i64) e.t hh.2.1 ?_)⟩
          refine cond_i (fun hne2 => ?_) (fun heq => skip (.inl (by simpa using heq)))
          have hne2' : e.t ≠ c := by simpa using hne2
          refine ⟨bnd, onSome_i hp (ld1_i (k := .int .i64) e.t hh.2.1 ?_)⟩
          obtain ⟨pd, hpd, hcd⟩ := rd_cell (k := .bool) (e := fun x => x) (v12.rd lenB) (hds1 e.t et0 et1)
          obtain rfl : (⟨bD, 0, none⟩ : Addr) = pd := by rw [s1b] at hpd; exact Option.some.inj hpd
          refine ⟨⟨et0, by omega⟩, onSome_i rfl (ld1_i (k := .bool) _ hcd ?_)⟩
          cases hin : isIn ((runQ L c a k).2 ++ [x]) e.t with
          | true => exact cond_i (fun h => by cases h) (fun _ => skip (.inr hin))
          | false =>
            refine cond_i (fun _ => ?_) (fun h => by cases h)
            have dd : Keep w12 w12.drew := Mod.drew (Mod.refl _ w12)
            have hkey : x.key ≤ 512 * 1099511627776 := by
              have h1 := hxb.2.1
              omega
            have hpl : (pushes c ((runQ L c a k).2 ++ [x]) x.key q ((outL L x.id).take i)).length ≤ n := by
              refine one_len (qsrt_nodup h12.srt) h12.one fun y hy => ?_
              have hq1 := List.pairwise_cons.1 hinv.srt
              have hone : One q := fun u hu v hv => hinv.one u (by simp [hu]) v (by simp [hv])
              rcases (pushes_ok (c := c) (s := (runQ L c a k).2 ++ [x]) (d := x.key) (l := (outL L x.id).take i) hq1.2 hone).2.2.1 y hy with hyq | ⟨e', he', _, _, rfl⟩
              · exact (hinv.bnd y (by simp [hyq])).2.2
              · have := hL.may e' (mem_outL.1 (List.mem_of_mem_take he')).1
                exact ⟨this.2.2.1, this.2.2.2.1⟩
            have hhd : HoldsAt w12.drew (p.add (i * 4)) 0 (encs [.int .i64, .int .i64, .int .i64, .int .i64] (tupA e)) := holds_keep rfl hh
            have od := o12.mod dd id
            refine ⟨bnd, onSome_i hp (ld1_i (k := .int .i64) e.t hhd.2.1 (ld1_i (k := .int .i64) x.key (by rw [addr_lit, od.cell]; rfl) ⟨bnd, onSome_i hp (ld1_i (k := .int .i64) e.w hhd.2.2.1 ?_)⟩))⟩
            rw [w64 (n := x.key + e.w) (by omega) (by omega)]
            refine RPush_i (h12.keep dd) (by omega) fun w13 sH13 h13 m13 f13 => ?_
            have m13' : Mod (fun b => b = B) w12 w13 := dd.wk.tr m13
            rw [wi]
            have hD12 := v12.lt s1b
            refine hY _ _ _ (by omega) ⟨i + 1, sH13, hi', rfl, rfl, ?_, fun b hb => ?_, v12.mod m13' fun b hb e' => by rw [s1b] at hb; cases hb; have e'' : bD = B := e'; omega, o12.mod m13' (by omega), u12.mod m13' fun b hb e' => by have := f11 b hb; have e'' : b.block = B := e'; omega, K12.fresh m13' fun b e' => by rw [show b = B from e']; omega, Nat.le_trans z12 m13'.size⟩
            · rw [tk, if_neg (fun h => h.elim hne2' fun h => by rw [hin] at h; cases h)]
              exact h13
            · rcases f13 b hb with h | h
              · exact fB12 b h
              · have h' : w12.heap.size ≤ b := h
                have : B ≤ w12.heap.size := hB ▸ K12.size
                exact ⟨by omega, by have : bD < w12.heap.size := hD12; omega⟩
        · have hge3' : ¬ (i : Int) < (s11.l : Int) := hge3
          have ei : i = (outL L x.id).length := by omega
          subst ei
          rw [List.take_length] at h12
          show X (IntKind.wrap .i64 ((k : Int) + 1), ()) w12
          rw [w64 (by omega) (by omega)]
          refine hX (n + 1 - (k + 1)) _ _ (by omega) ⟨k + 1, sH', _, rfl, rfl, by omega, by rw [hst1]; simp [hkl], by rw [hst1]; exact h12, fB12, v12, by rw [List.length_set]; exact dl, by rw [hst1]; exact hds1, K12, fun j y hj hy => ?_⟩
          rcases Nat.lt_or_ge j k with h | h
          · exact hno j y h hy
          · have : j = k := by omega
            subst this
            rw [hxk] at hy; cases hy; exact hne'
  · have hge' : ¬ (k : Int) < settle := hge
    have e1 : fndB (settled n L c a) to most settle = false := fnd_none fun j x hj hx => hno j x (by omega) hx
    rw [e1] at hQ
    exact hQ w6 K6
end Go.Proofs.Ytkghlmaalkmdkaa

/-
  The document's Shortcuts, Worth and First.
-/
namespace Go.Proofs.Ytkghlmaalkmdkaa
open Go Go.Den

section
variable {g n : Nat} {s : Sl} {L : List Arc} {W : World}
theorem rShortcuts_i {v : Int} {Q : Sl → World → Prop} (h : RNetIs W g s n L)
    (hQ : ∀ s w', Vec w' tArc 4 eArc s (shortL n L v) → Keep W w' → (∀ b, s.b = some b → W.heap.size ≤ b.block) → Q s w') : F_ref4_Net_Shortcuts (some ⟨g, 0, none⟩) v W Q := by
  unfold F_ref4_Net_Shortcuts
  have hL := h.ok
  have hn := h.sz
  have hLl := hL.len hn
  refine rIn_i h (by omega) fun s1 w1 v1 k1 f1 => ?_
  refine rOut_i (h.keep k1) (by omega) fun s2 w2 v2 k2 f2 => ?_
  have k02 := k1.tr k2
  have h2 := h.keep k02
  have v12 := v1.mod k2 fun _ _ => id
  have s1l := v1.len
  have s2l := v2.len
  have il := hL.in_len v
  have ol := hL.out_len v
  have slen : ∀ i, (((inL L v).take i).flatMap (fun a => shortP n L v a (outL L v))).length ≤ 262144 := fun i => by
    have h1 := short_len n L v ((inL L v).take i)
    have h2 : ((inL L v).take i).length ≤ 512 := by rw [List.length_take]; omega
    have : ((inL L v).take i).length * (outL L v).length ≤ 512 * 512 := Nat.mul_le_mul h2 (by omega)
    omega
  refine loop_i (fun c t w3 => ∃ (i : Nat) (s : Sl), i ≤ (inL L v).length ∧ c = (inL L v).length - i ∧ t = (s, (i : Int), ()) ∧ Vec w3 tArc 4 eArc s (((inL L v).take i).flatMap fun a => shortP n L v a (outL L v)) ∧ Keep w2 w3 ∧ (∀ b, s.b = some b → w2.heap.size ≤ b.block)) (inL L v).length
    ⟨0, _, Nat.zero_le _, rfl, rfl, by simpa using Vec.nil _ _ _ _, Mod.refl _ _, fun b hb => by cases hb⟩ ?_
  rintro c t w3 ⟨i, s, hi, rfl, rfl, hv, k3, fs⟩ X hX
  dsimp only
  refine cond_d (fun hlt => ?_) (fun hge => ?_)
  · have hi' : i < (inL L v).length := by omega
    have hia := List.getElem?_eq_getElem hi'
    have hmem := List.getElem_mem hi'
    have tk : ((inL L v).take (i + 1)).flatMap (fun a => shortP n L v a (outL L v)) = ((inL L v).take i).flatMap (fun a => shortP n L v a (outL L v)) ++ shortP n L v (inL L v)[i] (outL L v) := by
      rw [List.take_succ_eq_append_getElem hi', List.flatMap_append]; simp
    have hb1 := slen i
    generalize (inL L v)[i] = a at *
    generalize ((inL L v).take i).flatMap (fun a => shortP n L v a (outL L v)) = P at *
    obtain ⟨haL, hat⟩ := mem_inL.1 hmem
    obtain ⟨_, _, _, _, _, aw0, aw1, _⟩ := hL.may a haL
    refine loop_i (fun c t w6 => ∃ (j : Nat) (s' : Sl), j ≤ (outL L v).length ∧ c = (outL L v).length - j ∧ t = (s', (j : Int), ()) ∧ Vec w6 tArc 4 eArc s' (P ++ shortP n L v a ((outL L v).take j)) ∧ Keep w2 w6 ∧ (∀ b, s'.b = some b → w2.heap.size ≤ b.block)) (outL L v).length
      ⟨0, s, Nat.zero_le _, rfl, rfl, by simpa [shortP] using hv, k3, fs⟩ ?_
    rintro c t w6 ⟨j, s', hj, rfl, rfl, hv6, k6, fs6⟩ Y hY
    dsimp only
    refine cond_d (fun hlt2 => ?_) (fun hge2 => ?_)
    · have hj' : j < (outL L v).length := by omega
      have hjb := List.getElem?_eq_getElem hj'
      have hmemb := List.getElem_mem hj'
      have tkj : shortP n L v a ((outL L v).take (j + 1)) = shortP n L v a ((outL L v).take j) ++ (if needB n L v a (outL L v)[j] then [⟨a.f, (outL L v)[j].t, a.w + (outL L v)[j].w, v⟩] else []) := by
        rw [List.take_succ_eq_append_getElem hj', shortP_snoc]
      have hb2 := shortP_len n L v a ((outL L v).take j)
      have hb3 : ((outL L v).take j).length ≤ 512 := by rw [List.length_take]; omega
      generalize (outL L v)[j] = b at *
      generalize shortP n L v a ((outL L v).take j) = R at *
      obtain ⟨hbL, hbf⟩ := mem_outL.1 hmemb
      obtain ⟨_, _, _, _, _, bw0, bw1, _⟩ := hL.may b hbL
      have d6 : Keep w6 w6.drew := Mod.drew (Mod.refl _ w6)
      have K6 := k6.tr d6
      obtain ⟨p, hp, hh⟩ := rd_tup ((v12.mod K6 fun _ _ => id).rd lenA) hia
      obtain ⟨q, hq, hqh⟩ := rd_tup ((v2.mod K6 fun _ _ => id).rd lenA) hjb
      rw [Int.toNat_natCast, Int.toNat_natCast]
      have bi : 0 ≤ (i : Int) ∧ (i : Int) < (s1.l : Int) := ⟨by omega, by omega⟩
      have bj : 0 ≤ (j : Int) ∧ (j : Int) < (s2.l : Int) := ⟨by omega, by omega⟩
      refine ⟨bi, onSome_i hp (ld1_i (k := .int .i64) a.f hh.1 ⟨bj, onSome_i hq (ld1_i (k := .int .i64) b.t hqh.2.1 ⟨bi, onSome_i hp (ld1_i (k := .int .i64) a.w hh.2.2.1 ⟨bj, onSome_i hq (ld1_i (k := .int .i64) b.w hqh.2.2.1 ?_)⟩)⟩)⟩)⟩
      simp only [allocD]
      have kA := Keep.alloc w6.drew (.cells #[Value.int .i64 0, Value.int .i64 0, Value.int .i64 0, Value.int .i64 0] tArc)
      obtain ⟨p', hp', hh'⟩ := rd_tup (((v12.mod K6 fun _ _ => id).mod kA fun _ _ => id).rd lenA) hia
      obtain ⟨q', hq', hqh'⟩ := rd_tup (((v2.mod K6 fun _ _ => id).mod kA fun _ _ => id).rd lenA) hjb
      rw [hp] at hp'; cases hp'
      rw [hq] at hq'; cases hq'
      refine ⟨hqh'.2.2.1, hh'.2.2.1, hqh'.2.1, hh'.1, ?_⟩
      rw [w64 (n := a.w + b.w) (by omega) (by omega)]
      refine arc_copy (x := ⟨a.f, b.t, a.w + b.w, v⟩) fun w8 k8 o8 z8 => ?_
      have K8 := K6.tr k8
      have hv8 := (hv6.mod d6 fun _ _ => id).mod k8 fun _ _ => id
      generalize w6.drew.heap.size = b5 at *
      obtain ⟨a0, a1, a2, _⟩ := own_arc o8
      have next : ∀ w', Keep w8 w' → needB n L v a b = false → Y (s', IntKind.wrap .i64 ((j : Int) + 1), ()) w' := fun w' k' hn' => by
        rw [wi_ j (by omega)]
        exact hY _ _ _ (by omega) ⟨j + 1, s', hj', rfl, rfl, by rw [tkj, hn', if_neg (by simp), List.append_nil]; exact hv8.mod k' (fun _ _ => id), K8.tr k', fs6⟩
      refine ld1_i (k := .int .i64) a.f a0 (ld1_i (k := .int .i64) b.t a1 ?_)
      refine cond_i (fun hne => ?_) (fun heq => ?_)
      · have hne' : a.f ≠ b.t := by simpa using hne
        refine ld1_i (k := .int .i64) a.f a0 (ld1_i (k := .int .i64) b.t a1 (ld1_i (k := .int .i64) (a.w + b.w) a2 ?_))
        refine rWitness_i (h2.keep K8) (by omega) fun w9 k9 => ?_
        refine cond_i (fun hf => ?_) (fun hf => ?_)
        · have hneed : needB n L v a b = true := by unfold needB; rw [hf]; simp [hne']
          have o9 := o8.mod k9 id
          refine ldN_i (tupA ⟨a.f, b.t, a.w + b.w, v⟩) (own_all o9) ?_
          have hlit := Vec.lit w9 tArc eArc lenA [(⟨a.f, b.t, a.w + b.w, v⟩ : Arc)] #[Value.int .i64 a.f, Value.int .i64 b.t, Value.int .i64 (a.w + b.w), Value.int .i64 v] rfl (by simp [maxLen])
          have k10 := Keep.alloc w9 (.cells #[Value.int .i64 a.f, Value.int .i64 b.t, Value.int .i64 (a.w + b.w), Value.int .i64 v] tArc)
          refine append_i elem_sArc lenA oneA ((hv8.mod k9 fun _ _ => id).mod k10 (fun _ _ => id)) (hlit.rd lenA) (by rw [List.length_append]; simp only [List.length_singleton]; omega) (by rw [List.length_append]; simp only [List.length_singleton]; omega) fun r w11 v11 m11 f11 _ => ?_
          rw [wi_ j (by omega)]
          have K10 := (K8.tr k9).tr k10
          refine hY _ _ _ (by omega) ⟨j + 1, r, hj', rfl, rfl, by rw [tkj, hneed, if_pos rfl, ← List.append_assoc]; exact v11, K10.fresh m11 fun k ⟨b, hb, e⟩ => by subst e; exact fs6 b hb, fun b hb => ?_⟩
          rcases f11 with e | ⟨a', e, hle⟩
          · exact fs6 b (e ▸ hb)
          · rw [e] at hb; cases hb
            exact Nat.le_trans K10.size hle
        · have hf' : witB n L a.f b.t v (a.w + b.w) 30 = true := by simpa using hf
          exact next w9 k9 (by unfold needB; rw [hf']; simp)
      · have heq' : a.f = b.t := by simpa using heq
        exact next w8 (Mod.refl _ _) (by unfold needB; simp [heq'])
    · have e : j = (outL L v).length := by omega
      subst e
      rw [List.take_length] at hv6
      rw [wi_ i (by omega)]
      exact hX _ _ _ (by omega) ⟨i + 1, s', hi', rfl, rfl, by rw [tk]; exact hv6, k6, fs6⟩
  · have e : i = (inL L v).length := by omega
    subst e
    rw [List.take_length] at hv
    exact hQ s w3 hv (k02.tr k3) fun b hb => Nat.le_trans k02.size (fs b hb)

theorem rWorth_i {v : Int} {Q : Int → World → Prop} (h : RNetIs W g s n L) (hQ : ∀ w', Keep W w' → Q (worthL n L v) w') : F_ref4_Net_Worth (some ⟨g, 0, none⟩) v W Q := by
  unfold F_ref4_Net_Worth
  have hLl := h.ok.len h.sz
  refine rShortcuts_i h fun s w1 v1 k1 _ => ?_
  refine rIn_i (h.keep k1) (by omega) fun s2 w2 v2 k2 _ => ?_
  refine rOut_i ((h.keep k1).keep k2) (by omega) fun s3 w3 v3 k3 _ => ?_
  have l1 := v1.len
  have l2 := v2.len
  have l3 := v3.len
  have hb := short_bnd h.ok h.sz v
  have il := h.ok.in_len v
  have ol := h.ok.out_len v
  have hn := h.sz
  rw [l1, l2, l3, w64 (n := ((shortL n L v).length : Int) - ((inL L v).length : Int)) (by omega) (by omega), w64 (by omega) (by omega)]
  exact hQ w3 ((k1.tr k2).tr k3)

theorem rFirst_i {gone : Sl} {gs : List Bool} {Q : Int → World → Prop} (h : RNetIs W g s n L) (hg : Rd W gone 1 eB gs) (hgl : gs.length < 1000000) (hQ : ∀ w', Keep W w' → Q (firstL n L gs) w') : F_ref4_Net_First (some ⟨g, 0, none⟩) gone W Q := by
  unfold F_ref4_Net_First
  have hn := h.sz
  have gl := hg.len
  refine loop_i (fun c t w2 => ∃ (k : Nat) (z : Int × Int), k ≤ n ∧ c = n - k ∧ t = (z.2, z.1, (k : Int), ()) ∧ z.1 = (firstUpto n L gs k).1 ∧ (0 ≤ z.1 → z.2 = (firstUpto n L gs k).2) ∧ Keep W w2) n
    ⟨0, (-1, 0), Nat.zero_le _, rfl, rfl, rfl, fun _ => rfl, Mod.refl _ _⟩ ?_
  rintro c t w2 ⟨k, z, hk, rfl, rfl, hz1, hz2, k2⟩ X hX
  dsimp only
  refine onSome_i rfl (ld1_i (k := .int .i64) (n : Int) (h.keep k2).c0 ?_)
  refine cond_d (fun hlt => ?_) (fun hge => ?_)
  · have hk' : k < n := by omega
    have hs := firstUpto_succ n L gs k
    have next : ∀ w', Keep W w' → ∀ y : Int × Int, y.1 = (firstStep n L gs (firstUpto n L gs k) k).1 → (0 ≤ y.1 → y.2 = (firstStep n L gs (firstUpto n L gs k) k).2) → X (y.2, y.1, IntKind.wrap .i64 ((k : Int) + 1), ()) w' := fun w' k' y h1 h2 => by
      rw [wi_ k (by omega)]
      exact hX _ _ _ (by omega) ⟨k + 1, y, hk', rfl, rfl, by rw [hs]; exact h1, by rw [hs]; exact h2, k'⟩
    intro J hJ
    have go : isGone gs k = false → J () w2 := fun hg' => by
      apply hJ
      refine rWorth_i (h.keep k2) fun w4 k4 => ?_
      have K4 := k2.tr k4
      refine cond_d (fun h0 => ?_) (fun h0 => ?_)
      · have e : firstStep n L gs (firstUpto n L gs k) k = ((k : Int), worthL n L k) := by unfold firstStep; rw [hg', if_neg (by simp), if_pos (by rw [← hz1]; exact h0)]
        exact next w4 K4 ((k : Int), worthL n L k) (by rw [e]) fun _ => by rw [e]
      · have h0' : ¬ z.1 < 0 := h0
        have hz := hz2 (by omega)
        refine cond_d (fun hw => ?_) (fun hw => ?_)
        · have e : firstStep n L gs (firstUpto n L gs k) k = ((k : Int), worthL n L k) := by unfold firstStep; rw [hg', if_neg (by simp), if_neg (by rw [← hz1]; exact h0), if_pos (by rw [← hz]; exact hw)]
          exact next w4 K4 ((k : Int), worthL n L k) (by rw [e]) fun _ => by rw [e]
        · have e : firstStep n L gs (firstUpto n L gs k) k = firstUpto n L gs k := by unfold firstStep; rw [hg', if_neg (by simp), if_neg (by rw [← hz1]; exact h0), if_neg (by rw [← hz]; exact hw)]
          exact next w4 K4 z (by rw [e]; exact hz1) fun _ => by rw [e]; exact hz
    refine cond_d (fun hl => ?_) (fun hl => ?_)
    · have hkl : k < gs.length := by omega
      have hget : gs[k]? = some gs[k] := List.getElem?_eq_getElem hkl
      obtain ⟨p, hp, hc⟩ := rd_cell (k := .bool) (e := fun x => x) (hg.mod k2 (by simp) (fun _ _ => id)) hget
      have hgk : isGone gs k = gs[k] := by unfold isGone; rw [List.getD_eq_getElem?_getD, hget]; rfl
      rw [Int.toNat_natCast]
      refine ⟨⟨by omega, hl⟩, onSome_i hp (ld1_i (k := .bool) _ hc ?_)⟩
      refine cond_i (fun hb => ?_) (fun hb => go (hgk.trans hb))
      have e : firstStep n L gs (firstUpto n L gs k) k = firstUpto n L gs k := by unfold firstStep; rw [hgk, hb, if_pos rfl]
      exact next w2 k2 z (by rw [e]; exact hz1) fun h => by rw [e]; exact hz2 h
    · refine go ?_
      unfold isGone
      rw [List.getD_eq_getElem?_getD, List.getElem?_eq_none (by omega)]; rfl
  · have e : k = n := by omega
    subst e
    rw [show z.1 = firstL k L gs from hz1]
    exact hQ w2 k2
end
end Go.Proofs.Ytkghlmaalkmdkaa

/-
  A copy of the document's net.
-/
namespace Go.Proofs.Ytkghlmaalkmdkaa
open Go Go.Den
section
variable {w : World} {g : Nat} {s : Sl} {n : Nat} {l : List Arc}
theorem rCopy_i {Q : Option Addr → World → Prop} (h : RNetIs w g s n l) (hl : l.length < 1099511627776)
    (hQ : ∀ w' g' s', RNetIs w' g' s' n l → Keep w w' → (∀ k, rhas g' s' k → w.heap.size ≤ k) → Q (some ⟨g', 0, none⟩) w') : F_ref4_Net_Copy (some ⟨g, 0, none⟩) w Q := by
  unfold F_ref4_Net_Copy
  have d : Keep w w.drew := Mod.drew (Mod.refl _ w)
  have h0 := h.keep d
  refine onSome_i rfl (ld1_i (k := .int .i64) (n : Int) h0.c0 (onSome_i rfl (ld1_i (k := .slice) s h0.c1 ?_)))
  simp only [allocD]
  have k1 := Keep.alloc w.drew (.cells #[] 38)
  have h1 := h0.keep k1
  have v0 : Vec (w.drew.alloc (.cells #[] 38)) tArc 4 eArc ⟨some ⟨w.drew.heap.size, 0, none⟩, 0, 0⟩ [] := Vec.lit w.drew tArc eArc lenA [] #[] rfl (by simp)
  refine ⟨h1.c1, h1.c0, ?_⟩
  refine append_i elem_sArc lenA oneA v0 (h1.vec.rd lenA) (by simp; omega) (by simp; omega) fun s2 w2 v2 m2 hb2 _ => ?_
  simp only [List.nil_append] at v2
  have k2 : Keep w w2 := Mod.fresh (d.tr k1) m2 fun k ⟨b, hb, hk⟩ => by cases hb; rw [hk]; exact Nat.le_refl _
  have f2 : ∀ b, s2.b = some b → w.heap.size ≤ b.block := fun b hb => by
    rcases hb2 with e | ⟨b', e, hlt⟩
    · rw [hb] at e; cases e; exact Nat.le_refl _
    · rw [e] at hb; cases hb; exact Nat.le_trans k1.size hlt
  refine ⟨(h.keep k2).c0, ?_⟩
  have k3 := Keep.alloc w2 (.cells #[Value.int .i64 (n : Int), Value.slice s2.b s2.l s2.c] 41)
  refine hQ _ w2.heap.size s2 ⟨Own.alloc' w2 _ _, v2.mod k3 (fun _ _ => id), fun a ha => Nat.ne_of_lt (v2.lt ha), h.ok, h.sz⟩ (k2.tr k3) fun k hk => ?_
  rcases hk with rfl | ⟨a, ha, rfl⟩
  · exact k2.size
  · exact f2 a ha
end
end Go.Proofs.Ytkghlmaalkmdkaa

/-
  The document's levels: Build, Rank, Up, Down, Cuts.
-/
namespace Go.Proofs.Ytkghlmaalkmdkaa
open Go Go.Den

structure RLevS where
  g : Nat
  s : Sl
  gl : Nat
  rs : Sl
def RLevS.has (H : RLevS) (k : Nat) : Prop := k = H.gl ∨ rhas H.g H.s k ∨ ∃ a, H.rs.b = some a ∧ k = a.block
structure RLevIs (w : World) (H : RLevS) (n : Nat) (A : List Arc) (R : List Int) : Prop where
  head : Own w H.gl tRLev [.pointer (some ⟨H.g, 0, none⟩), sv H.rs]
  net : RNetIs w H.g H.s n A
  rank : Vec w tInt 1 eI H.rs R
  rlen : R.length = n

section
variable {w : World} {H : RLevS} {n : Nat} {A : List Arc} {R : List Int}
theorem RLevIs.mod {F : Nat → Prop} {w' : World} (h : RLevIs w H n A R) (m : Mod F w w') (hF : ∀ k, H.has k → ¬ F k) : RLevIs w' H n A R :=
  ⟨h.head.mod m (hF _ (.inl rfl)), h.net.mod m fun k hk => hF k (.inr (.inl hk)), h.rank.mod m fun a ha => hF _ (.inr (.inr ⟨a, ha, rfl⟩)), h.rlen⟩
theorem RLevIs.keep {w' : World} (h : RLevIs w H n A R) (k : Keep w w') : RLevIs w' H n A R := h.mod k fun _ _ => id
theorem RLevIs.c0 (h : RLevIs w H n A R) : w.cell? ((⟨H.gl, 0, none⟩ : Addr).add 0) = some (.pointer (some ⟨H.g, 0, none⟩)) := by rw [addr_lit, h.head.cell]; rfl
theorem RLevIs.c1 (h : RLevIs w H n A R) : w.cell? ((⟨H.gl, 0, none⟩ : Addr).add 1) = some (sv H.rs) := by rw [addr_lit, h.head.cell]; rfl
theorem RLevIs.rcell (h : RLevIs w H n A R) {v : Int} (h0 : 0 ≤ v) (h1 : v < n) : ∃ p, H.rs.b = some p ∧ w.cell? (p.add (v.toNat * 1)) = some (.int .i64 (rankOf R v)) := by
  have hl := h.rlen
  have hget : R[v.toNat]? = some (R.getD v.toNat 0) := by
    rw [List.getD_eq_getElem?_getD, List.getElem?_eq_getElem (show v.toNat < R.length by omega)]; rfl
  obtain ⟨p, hp, hc⟩ := rd_cell (k := .int .i64) (e := fun x => x) (h.rank.rd lenI) hget
  refine ⟨p, hp, ?_⟩
  have e : rankOf R v = R.getD v.toNat 0 := by unfold rankOf; rw [if_pos ⟨h0, by omega⟩]
  rw [e]; exact hc

theorem rUp_i {v : Int} {Q : Sl → World → Prop} (h : RLevIs w H n A R) (v0 : 0 ≤ v) (v1 : v < n) (hQ : ∀ s w', Vec w' tArc 4 eArc s (upL A R v) → Keep w w' → (∀ b, s.b = some b → w.heap.size ≤ b.block) → Q s w') : F_ref4_Levels_Up (some ⟨H.gl, 0, none⟩) v w Q := by
  unfold F_ref4_Levels_Up
  have hL := h.net.ok
  have hAl := hL.len h.net.sz
  have sl := h.rank.len
  have hl := h.rlen
  refine onSome_i rfl (ld1_i (k := .ptr) (some ⟨H.g, 0, none⟩) h.c0 ?_)
  refine rOut_i h.net (by omega) fun s1 w1 v1' k1 _ => ?_
  have sl1 := v1'.len
  have ol := hL.out_len v
  have hn := h.net.sz
  refine loop_i (fun c t w2 => ∃ (i : Nat) (s : Sl), i ≤ (outL A v).length ∧ c = (outL A v).length - i ∧ t = (s, (i : Int), ()) ∧ Vec w2 tArc 4 eArc s (((outL A v).take i).filter fun e => decide (rankOf R v < rankOf R e.t)) ∧ Keep w1 w2 ∧ (∀ b, s.b = some b → w1.heap.size ≤ b.block)) (outL A v).length
    ⟨0, _, Nat.zero_le _, rfl, rfl, by simpa using Vec.nil _ _ _ _, Mod.refl _ _, fun b hb => by cases hb⟩ ?_
  rintro c t w2 ⟨i, s, hi, rfl, rfl, hv, k2, fs⟩ X hX
  dsimp only
  refine cond_d (fun hlt => ?_) (fun hge => ?_)
  · have hi' : i < (outL A v).length := by omega
    have d2 : Keep w2 w2.drew := Mod.drew (Mod.refl _ w2)
    have K2 := (k1.tr k2).tr d2
    have hd := h.keep K2
    obtain ⟨p, hp, hh⟩ := rd_tup (((v1'.mod k2 fun _ _ => id).mod d2 fun _ _ => id).rd lenA) (List.getElem?_eq_getElem hi')
    have hmem := List.getElem_mem hi'
    have tk : ((outL A v).take (i + 1)).filter (fun e => decide (rankOf R v < rankOf R e.t)) = ((outL A v).take i).filter (fun e => decide (rankOf R v < rankOf R e.t)) ++ (if rankOf R v < rankOf R (outL A v)[i].t then [(outL A v)[i]] else []) := by
      rw [List.take_succ_eq_append_getElem hi', List.filter_append, List.filter_cons, List.filter_nil]
      congr 1
      by_cases hh : rankOf R v < rankOf R (outL A v)[i].t <;> simp [hh]
    have hfl : (((outL A v).take i).filter fun e => decide (rankOf R v < rankOf R e.t)).length ≤ 512 := Nat.le_trans (List.length_filter_le _ _) (by rw [List.length_take]; omega)
    generalize (outL A v)[i] = x at *
    obtain ⟨_, _, x0, x1, _⟩ := hL.may x (mem_outL.1 hmem).1
    obtain ⟨pr, hpr, hcr⟩ := hd.rcell x0 x1
    obtain ⟨pv, hpv, hcv⟩ := hd.rcell v0 v1
    rw [Int.toNat_natCast]
    have bi : 0 ≤ (i : Int) ∧ (i : Int) < (s1.l : Int) := ⟨by omega, hlt⟩
    refine onSome_i rfl (ld1_i (k := .slice) H.rs hd.c1 ⟨bi, onSome_i hp (ld1_i (k := .int .i64) x.t hh.2.1 ⟨⟨x0, by omega⟩, onSome_i hpr (ld1_i (k := .int .i64) _ hcr ?_)⟩)⟩)
    refine onSome_i rfl (ld1_i (k := .slice) H.rs hd.c1 ⟨⟨v0, by omega⟩, onSome_i hpv (ld1_i (k := .int .i64) _ hcv ?_)⟩)
    refine cond_d (fun hgt => ?_) (fun hle => ?_)
    · have hgt' : rankOf R v < rankOf R x.t := hgt
      refine ⟨bi, onSome_i hp (ldN_i (tupA x) hh ?_)⟩
      simp only [allocD]
      have hlit := Vec.lit w2.drew tArc eArc lenA [x] #[Value.int .i64 x.f, Value.int .i64 x.t, Value.int .i64 x.w, Value.int .i64 x.m] rfl (by simp [maxLen])
      have k3 := Keep.alloc w2.drew (.cells #[Value.int .i64 x.f, Value.int .i64 x.t, Value.int .i64 x.w, Value.int .i64 x.m] tArc)
      refine append_i elem_sArc lenA oneA ((hv.mod d2 fun _ _ => id).mod k3 (fun _ _ => id)) (hlit.rd lenA) (by simp only [List.length_singleton]; omega) (by simp only [List.length_singleton]; omega) fun r w4 v4 m4 f4 _ => ?_
      rw [wi_ i (by omega)]
      have K3 := (k2.tr d2).tr k3
      refine hX _ _ _ (by omega) ⟨i + 1, r, hi', rfl, rfl, by rw [tk, if_pos hgt']; exact v4, K3.fresh m4 fun k ⟨b, hb, e⟩ => by subst e; exact fs b hb, fun b hb => ?_⟩
      rcases f4 with e | ⟨a', e, hle⟩
      · exact fs b (e ▸ hb)
      · rw [e] at hb; cases hb
        exact Nat.le_trans K3.size hle
    · have hle' : ¬ rankOf R v < rankOf R x.t := hle
      rw [wi_ i (by omega)]
      exact hX _ _ _ (by omega) ⟨i + 1, s, hi', rfl, rfl, by rw [tk, if_neg hle', List.append_nil]; exact hv.mod d2 (fun _ _ => id), k2.tr d2, fs⟩
  · have e : i = (outL A v).length := by omega
    subst e
    rw [List.take_length] at hv
    exact hQ s w2 hv (k1.tr k2) fun b hb => Nat.le_trans k1.size (fs b hb)
theorem rDown_i {v : Int} {Q : Sl → World → Prop} (h : RLevIs w H n A R) (v0 : 0 ≤ v) (v1 : v < n) (hQ : ∀ s w', Vec w' tArc 4 eArc s (downL A R v) → Keep w w' → (∀ b, s.b = some b → w.heap.size ≤ b.block) → Q s w') : F_ref4_Levels_Down (some ⟨H.gl, 0, none⟩) v w Q := by
  unfold F_ref4_Levels_Down
  have hL := h.net.ok
  have hAl := hL.len h.net.sz
  have sl := h.rank.len
  have hl := h.rlen
  refine onSome_i rfl (ld1_i (k := .ptr) (some ⟨H.g, 0, none⟩) h.c0 ?_)
  refine rIn_i h.net (by omega) fun s1 w1 v1' k1 _ => ?_
  have sl1 := v1'.len
  have ol := hL.in_len v
  have hn := h.net.sz
  refine loop_i (fun c t w2 => ∃ (i : Nat) (s : Sl), i ≤ (inL A v).length ∧ c = (inL A v).length - i ∧ t = (s, (i : Int), ()) ∧ Vec w2 tArc 4 eArc s (((inL A v).take i).filter fun e => decide (rankOf R v < rankOf R e.f)) ∧ Keep w1 w2 ∧ (∀ b, s.b = some b → w1.heap.size ≤ b.block)) (inL A v).length
    ⟨0, _, Nat.zero_le _, rfl, rfl, by simpa using Vec.nil _ _ _ _, Mod.refl _ _, fun b hb => by cases hb⟩ ?_
  rintro c t w2 ⟨i, s, hi, rfl, rfl, hv, k2, fs⟩ X hX
  dsimp only
  refine cond_d (fun hlt => ?_) (fun hge => ?_)
  · have hi' : i < (inL A v).length := by omega
    have d2 : Keep w2 w2.drew := Mod.drew (Mod.refl _ w2)
    have K2 := (k1.tr k2).tr d2
    have hd := h.keep K2
    obtain ⟨p, hp, hh⟩ := rd_tup (((v1'.mod k2 fun _ _ => id).mod d2 fun _ _ => id).rd lenA) (List.getElem?_eq_getElem hi')
    have hmem := List.getElem_mem hi'
    have tk : ((inL A v).take (i + 1)).filter (fun e => decide (rankOf R v < rankOf R e.f)) = ((inL A v).take i).filter (fun e => decide (rankOf R v < rankOf R e.f)) ++ (if rankOf R v < rankOf R (inL A v)[i].f then [(inL A v)[i]] else []) := by
      rw [List.take_succ_eq_append_getElem hi', List.filter_append, List.filter_cons, List.filter_nil]
      congr 1
      by_cases hh : rankOf R v < rankOf R (inL A v)[i].f <;> simp [hh]
    have hfl : (((inL A v).take i).filter fun e => decide (rankOf R v < rankOf R e.f)).length ≤ 512 := Nat.le_trans (List.length_filter_le _ _) (by rw [List.length_take]; omega)
    generalize (inL A v)[i] = x at *
    obtain ⟨x0, x1, _⟩ := hL.may x (mem_inL.1 hmem).1
    obtain ⟨pr, hpr, hcr⟩ := hd.rcell x0 x1
    obtain ⟨pv, hpv, hcv⟩ := hd.rcell v0 v1
    rw [Int.toNat_natCast]
    have bi : 0 ≤ (i : Int) ∧ (i : Int) < (s1.l : Int) := ⟨by omega, hlt⟩
    refine onSome_i rfl (ld1_i (k := .slice) H.rs hd.c1 ⟨bi, onSome_i hp (ld1_i (k := .int .i64) x.f hh.1 ⟨⟨x0, by omega⟩, onSome_i hpr (ld1_i (k := .int .i64) _ hcr ?_)⟩)⟩)
    refine onSome_i rfl (ld1_i (k := .slice) H.rs hd.c1 ⟨⟨v0, by omega⟩, onSome_i hpv (ld1_i (k := .int .i64) _ hcv ?_)⟩)
    refine cond_d (fun hgt => ?_) (fun hle => ?_)
    · have hgt' : rankOf R v < rankOf R x.f := hgt
      refine ⟨bi, onSome_i hp (ldN_i (tupA x) hh ?_)⟩
      simp only [allocD]
      have hlit := Vec.lit w2.drew tArc eArc lenA [x] #[Value.int .i64 x.f, Value.int .i64 x.t, Value.int .i64 x.w, Value.int .i64 x.m] rfl (by simp [maxLen])
      have k3 := Keep.alloc w2.drew (.cells #[Value.int .i64 x.f, Value.int .i64 x.t, Value.int .i64 x.w, Value.int .i64 x.m] tArc)
      refine append_i elem_sArc lenA oneA ((hv.mod d2 fun _ _ => id).mod k3 (fun _ _ => id)) (hlit.rd lenA) (by simp only [List.length_singleton]; omega) (by simp only [List.length_singleton]; omega) fun r w4 v4 m4 f4 _ => ?_
      rw [wi_ i (by omega)]
      have K3 := (k2.tr d2).tr k3
      refine hX _ _ _ (by omega) ⟨i + 1, r, hi', rfl, rfl, by rw [tk, if_pos hgt']; exact v4, K3.fresh m4 fun k ⟨b, hb, e⟩ => by subst e; exact fs b hb, fun b hb => ?_⟩
      rcases f4 with e | ⟨a', e, hle⟩
      · exact fs b (e ▸ hb)
      · rw [e] at hb; cases hb
        exact Nat.le_trans K3.size hle
    · have hle' : ¬ rankOf R v < rankOf R x.f := hle
      rw [wi_ i (by omega)]
      exact hX _ _ _ (by omega) ⟨i + 1, s, hi', rfl, rfl, by rw [tk, if_neg hle', List.append_nil]; exact hv.mod d2 (fun _ _ => id), k2.tr d2, fs⟩
  · have e : i = (inL A v).length := by omega
    subst e
    rw [List.take_length] at hv
    exact hQ s w2 hv (k1.tr k2) fun b hb => Nat.le_trans k1.size (fs b hb)

end

theorem rBuild_i {g n : Nat} {s : Sl} {L : List Arc} {W : World} {Q : Option Addr → World → Prop} (h : RNetIs W g s n L) (hn : n ≤ 30) (hw : ∀ e ∈ L, e.w ≤ 20)
    (hQ : ∀ w' H, RLevIs w' H n (bldN n L n).all (bldN n L n).rank → Keep W w' → (∀ k, H.has k → W.heap.size ≤ k) → Q (some ⟨H.gl, 0, none⟩) w') : F_ref4_Build (some ⟨g, 0, none⟩) W Q := by
  unfold F_ref4_Build
  have hL := h.ok
  have hLl := hL.len h.sz
  have d0 : Keep W W.drew := Mod.drew (Mod.refl _ W)
  have szd : W.drew.heap.size = W.heap.size := rfl
  intro J hJ
  -- behind the copy and the ranks
  have after : ∀ (w1 : World) (gA : Nat) (sA s2 : Sl) (bl br : Nat), RNetIs w1 gA sA n L → s2 = ⟨some ⟨br, 0, none⟩, n, n⟩ → Vec w1 tInt 1 eI s2 (List.replicate n 0) → Own w1 bl tRLev [.pointer (some ⟨gA, 0, none⟩), sv s2] → Keep W w1 → (∀ b, rhas gA sA b → W.heap.size ≤ b ∧ b ≠ br ∧ b ≠ bl) → W.heap.size ≤ bl → W.heap.size ≤ br → bl ≠ br → J (some ⟨bl, 0, none⟩, ()) w1 := by
    intro w1 gA sA s2 bl br hA1 hs2 v2 ol K1 fA1 lbl lbr lne
    apply hJ
    dsimp only
    have s2b : s2.b = some ⟨br, 0, none⟩ := by rw [hs2]
    have s2l : s2.l = n := by rw [hs2]
    have hbr : br < w1.heap.size := v2.lt s2b
    have hbl : bl < w1.heap.size := ol.lt
    refine rCopy_i (h.keep K1) (by omega) fun w2 gC sC hC2 k2 fC2 => ?_
    have K2 := K1.tr k2
    refine onSome_i rfl (ld1_i (k := .int .i64) (n : Int) (h.keep K2).c0 ?_)
    refine make_i elem_sBool (enc := eB) false rfl lenB (by omega) (Int.le_refl _) (by omega) (by omega) fun w3 v3 k3 => ?_
    simp only [Int.toNat_natCast] at v3 ⊢
    have K3 := K2.tr k3
    have hC3 := hC2.keep k3
    have hA3 := (hA1.keep k2).keep k3
    have r3 := (v2.mod k2 fun _ _ => id).mod k3 fun _ _ => id
    have l3 := (ol.mod k2 id).mod k3 id
    generalize hs1 : (⟨some ⟨w2.heap.size, 0, none⟩, n, n⟩ : Sl) = s1 at *
    have s1b : s1.b = some ⟨w2.heap.size, 0, none⟩ := by rw [← hs1]
    have s1l : s1.l = n := by rw [← hs1]
    have z12 : w1.heap.size ≤ w2.heap.size := k2.size
    have z23 : w2.heap.size < w3.heap.size := v3.lt s1b
    have zW1 := K1.size
    have ltC : ∀ b, rhas gC sC b → w1.heap.size ≤ b ∧ b < w2.heap.size := fun b hb => ⟨fC2 b hb, hC2.lt hb⟩
    have ltA : ∀ b, rhas gA sA b → b < w1.heap.size := fun b hb => hA1.lt hb
    generalize hg : w2.heap.size = bg at *
    refine loop_i (fun c t w9 => ∃ (k : Nat) (sC' sA' : Sl), k ≤ n ∧ c = n - k ∧ t = ((k : Int), ()) ∧ RNetIs w9 gC sC' n (bldN n L k).left ∧ RNetIs w9 gA sA' n (bldN n L k).all ∧ Vec w9 tBool 1 eB s1 (bldN n L k).gone ∧ Vec w9 tInt 1 eI s2 (bldN n L k).rank ∧
        Own w9 bl tRLev [.pointer (some ⟨gA, 0, none⟩), sv s2] ∧ Keep W w9 ∧ (∀ b, rhas gC sC' b → W.heap.size ≤ b ∧ ¬ rhas gA sA' b ∧ b ≠ bg ∧ b ≠ br ∧ b ≠ bl) ∧ (∀ b, rhas gA sA' b → W.heap.size ≤ b ∧ b ≠ bg ∧ b ≠ br ∧ b ≠ bl) ∧ w3.heap.size ≤ w9.heap.size) n
      ⟨0, sC, sA, Nat.zero_le _, rfl, rfl, hC3, hA3, v3, r3, l3, K3, fun b hb => ?_, fun b hb => ?_, Nat.le_refl _⟩ ?_
    · obtain ⟨q1, q2⟩ := ltC b hb
      exact ⟨by omega, fun hb' => by have := ltA b hb'; omega, by omega, by omega, by omega⟩
    · obtain ⟨q1, q2, q3⟩ := fA1 b hb
      have := ltA b hb
      exact ⟨q1, by omega, q2, q3⟩
    rintro c t w9 ⟨k, sC', sA', hk, rfl, rfl, hC9, hA9, u1, u2, ol9, K9, fC9, fA9, z9⟩ X hX
    dsimp only
    have hinv := bld_inv hL hw k hk
    refine onSome_i rfl (ld1_i (k := .int .i64) (n : Int) (h.keep K9).c0 ?_)
    refine cond_d (fun hlt => ?_) (fun hge => ?_)
    · have hk' : k < n := by omega
      obtain ⟨x0, x1, xg⟩ := bld_first hinv hk'
      have hst : bldN n L (k + 1) = bldStep n k (bldN n L k) := rfl
      refine rFirst_i hC9 (u1.rd lenB) (by rw [hinv.gl]; omega) fun w10 k10 => ?_
      unfold bldStep at hst
      generalize firstL n (bldN n L k).left (bldN n L k).gone = v at *
      refine rShortcuts_i (hC9.keep k10) fun s3 w11 v11 k11 f11 => ?_
      have k911 := k10.tr k11
      have sl3 := v11.len
      have hsb := short_bnd hinv.okl h.sz v
      have hC11 := hC9.keep k911
      have hA11 := hA9.keep k911
      have gCf := fC9 gC (.inl rfl)
      have gAf := fA9 gA (.inl rfl)
      have n3C : ∀ b, s3.b = some b → b.block ≠ gC := fun b hb e => by have h1 := f11 b hb; have h2 := k10.size; have := hC9.lt (.inl rfl); omega
      have n3A : ∀ b, s3.b = some b → b.block ≠ gA := fun b hb e => by have h1 := f11 b hb; have h2 := k10.size; have := hA9.lt (.inl rfl); omega
      refine loop_i (fun c t w12 => ∃ (i : Nat) (sC2 sA2 : Sl), i ≤ (shortL n (bldN n L k).left v).length ∧ c = (shortL n (bldN n L k).left v).length - i ∧ t = ((i : Int), ()) ∧ RNetIs w12 gC sC2 n (putAll n (bldN n L k).left ((shortL n (bldN n L k).left v).take i)) ∧ RNetIs w12 gA sA2 n (putAll n (bldN n L k).all ((shortL n (bldN n L k).left v).take i)) ∧
          Vec w12 tArc 4 eArc s3 (shortL n (bldN n L k).left v) ∧ Vec w12 tBool 1 eB s1 (bldN n L k).gone ∧ Vec w12 tInt 1 eI s2 (bldN n L k).rank ∧ Own w12 bl tRLev [.pointer (some ⟨gA, 0, none⟩), sv s2] ∧ Keep W w12 ∧
          (∀ b, rhas gC sC2 b → W.heap.size ≤ b ∧ ¬ rhas gA sA2 b ∧ b ≠ bg ∧ b ≠ br ∧ b ≠ bl) ∧ (∀ b, rhas gA sA2 b → W.heap.size ≤ b ∧ b ≠ bg ∧ b ≠ br ∧ b ≠ bl) ∧ w11.heap.size ≤ w12.heap.size) (shortL n (bldN n L k).left v).length
        ⟨0, sC', sA', Nat.zero_le _, rfl, rfl, hC11, hA11, v11, u1.mod k911 (fun _ _ => id), u2.mod k911 (fun _ _ => id), ol9.mod k911 id, K9.tr k911, fC9, fA9, Nat.le_refl _⟩ ?_
      rintro c t w12 ⟨i, sC2, sA2, hi, rfl, rfl, hC12, hA12, v12, u12, r12, l12, K12, fC12, fA12, z12'⟩ Y hY
      have zz9 : w3.heap.size ≤ w12.heap.size := by have := k911.size; omega
      have gC12 := fC12 gC (.inl rfl)
      have gA12 := fA12 gA (.inl rfl)
      refine cond_d (fun hlt2 => ?_) (fun hge2 => ?_)
      · have hlt2' : (i : Int) < (s3.l : Int) := hlt2
        have hi' : i < (shortL n (bldN n L k).left v).length := by omega
        have hget := List.getElem?_eq_getElem hi'
        obtain ⟨p, hp, hh⟩ := rd_tup (v12.rd lenA) hget
        have tkC := putAll_snoc n (bldN n L k).left ((shortL n (bldN n L k).left v).take i) (shortL n (bldN n L k).left v)[i]
        have tkA := putAll_snoc n (bldN n L k).all ((shortL n (bldN n L k).left v).take i) (shortL n (bldN n L k).left v)[i]
        rw [← List.take_succ_eq_append_getElem hi'] at tkC tkA
        generalize (shortL n (bldN n L k).left v)[i] = x at *
        show (0 ≤ (i : Int) ∧ (i : Int) < (s3.l : Int)) ∧ _
        rw [Int.toNat_natCast]
        refine ⟨⟨by omega, hlt2'⟩, onSome_i hp (ldN_i (tupA x) hh ?_)⟩
        refine rPut_i hC12 (by have := hC12.ok.len hC12.sz; omega) fun w15 sC3 hC15 m15 f15 => ?_
        have m15' : Mod (fun b => b = gC) w12 w15 := m15
        have hA15 := hA12.mod m15' fun b hb e => (fC12 gC (.inl rfl)).2.1 (e ▸ hb)
        have v15 := v12.mod m15' fun a ha e => n3C a ha e
        have u15 := u12.mod m15' fun a ha e => by rw [s1b] at ha; cases ha; exact gC12.2.2.1 (Eq.symm e)
        have r15 := r12.mod m15' fun a ha e => by rw [s2b] at ha; cases ha; exact gC12.2.2.2.1 (Eq.symm e)
        have l15 := l12.mod m15' fun e => gC12.2.2.2.2 (Eq.symm e)
        have K15 : Keep W w15 := Mod.fresh K12 m15' fun b e => by rw [show b = gC from e]; exact gC12.1
        have zW12 := K12.size
        have fC15 : ∀ b, rhas gC sC3 b → W.heap.size ≤ b ∧ ¬ rhas gA sA2 b ∧ b ≠ bg ∧ b ≠ br ∧ b ≠ bl := fun b hb => by
          rcases hb with rfl | ⟨a, ha, rfl⟩
          · exact gC12
          · rcases f15 a ha with e | h'
            · exact fC12 _ (.inr ⟨a, e ▸ ha, rfl⟩)
            · exact ⟨by omega, fun h'' => by have := hA12.lt h''; omega, by omega, by omega, by omega⟩
        have d15 : Keep w15 w15.drew := Mod.drew (Mod.refl _ w15)
        have l15d := l15.mod d15 id
        obtain ⟨p', hp', hh'⟩ := rd_tup ((v15.mod d15 fun _ _ => id).rd lenA) hget
        refine onSome_i rfl (ld1_i (k := .ptr) (some ⟨gA, 0, none⟩) (by rw [addr_lit, l15d.cell]; rfl) ⟨⟨by omega, hlt2'⟩, onSome_i hp' (ldN_i (tupA x) hh' ?_)⟩)
        refine rPut_i (hA15.keep d15) (by have := hA12.ok.len hA12.sz; omega) fun w16 sA3 hA16 m16 f16 => ?_
        have m16' : Mod (fun b => b = gA) w15 w16 := d15.wk.tr m16
        have hC16 := hC15.mod m16' fun b hb e => (fC15 b hb).2.1 (.inl e)
        have v16 := v15.mod m16' fun a ha e => n3A a ha e
        have u16 := u15.mod m16' fun a ha e => by rw [s1b] at ha; cases ha; exact gA12.2.1 (Eq.symm e)
        have r16 := r15.mod m16' fun a ha e => by rw [s2b] at ha; cases ha; exact gA12.2.2.1 (Eq.symm e)
        have l16 := l15.mod m16' fun e => gA12.2.2.2 (Eq.symm e)
        have K16 : Keep W w16 := Mod.fresh K15 m16' fun b e => by rw [show b = gA from e]; exact gA12.1
        have z1516 : w15.heap.size ≤ w16.heap.size := m16'.size
        have z1215 := m15'.size
        rw [wi_ i (by omega)]
        refine hY _ _ _ (by omega) ⟨i + 1, sC3, sA3, hi', rfl, rfl, by rw [tkC]; exact hC16, by rw [tkA]; exact hA16, v16, u16, r16, l16, K16, fun b hb => ?_, fun b hb => ?_, by omega⟩
        · obtain ⟨q1, q2, q3, q4, q5⟩ := fC15 b hb
          refine ⟨q1, fun hb' => ?_, q3, q4, q5⟩
          rcases hb' with rfl | ⟨a, ha, rfl⟩
          · exact q2 (.inl rfl)
          · rcases f16 a ha with e | h'
            · exact q2 (.inr ⟨a, e ▸ ha, rfl⟩)
            · have h'' : w15.heap.size ≤ a.block := h'
              have := hC15.lt hb; omega
        · rcases hb with rfl | ⟨a, ha, rfl⟩
          · exact gA12
          · rcases f16 a ha with e | h'
            · exact fA12 _ (.inr ⟨a, e ▸ ha, rfl⟩)
            · have h'' : w15.heap.size ≤ a.block := h'
              exact ⟨by omega, by omega, by omega, by omega⟩
      · have hge2' : ¬ (i : Int) < (s3.l : Int) := hge2
        have ei : i = (shortL n (bldN n L k).left v).length := by omega
        subst ei
        rw [List.take_length] at hC12 hA12
        refine rCut_i hC12 (by have := hC12.ok.len hC12.sz; omega) fun w17 sC3 hC17 m17 f17 => ?_
        have m17' : Mod (fun b => b = gC) w12 w17 := m17
        have hA17 := hA12.mod m17' fun b hb e => (fC12 gC (.inl rfl)).2.1 (e ▸ hb)
        have u17 := u12.mod m17' fun a ha e => by rw [s1b] at ha; cases ha; exact gC12.2.2.1 (Eq.symm e)
        have r17 := r12.mod m17' fun a ha e => by rw [s2b] at ha; cases ha; exact gC12.2.2.2.1 (Eq.symm e)
        have l17 := l12.mod m17' fun e => gC12.2.2.2.2 (Eq.symm e)
        have K17 : Keep W w17 := Mod.fresh K12 m17' fun b e => by rw [show b = gC from e]; exact gC12.1
        have zl := hinv.rl
        have zg := hinv.gl
        have zW12 := K12.size
        have fC17 : ∀ b, rhas gC sC3 b → W.heap.size ≤ b ∧ ¬ rhas gA sA2 b ∧ b ≠ bg ∧ b ≠ br ∧ b ≠ bl := fun b hb => by
          rcases hb with rfl | ⟨a, ha, rfl⟩
          · exact gC12
          · have h' := f17 a ha
            exact ⟨by omega, fun h'' => by have := hA12.lt h''; omega, by omega, by omega, by omega⟩
        refine ⟨⟨x0, by first | omega | (rw [s1l]; omega)⟩, onSome_i (by first | rfl | exact s1b) ?_⟩
        refine u17.store lenB s1b (i := v.toNat) (by omega) true (v := .bool true) rfl size_Bool (oneB true) fun w18 u18 m18 _ => ?_
        have m18' : Mod (fun b => b = bg) w17 w18 := m18
        have zbg : br ≠ bg := by omega
        have r18 := r17.mod m18' fun a ha e => by rw [s2b] at ha; cases ha; exact zbg e
        have l18 := l17.mod m18' (show ¬ bl = bg by omega)
        refine onSome_i rfl (ld1_i (k := .slice) s2 (by rw [addr_lit, l18.cell]; rfl) ⟨⟨x0, by rw [s2l]; omega⟩, onSome_i s2b ?_⟩)
        refine r18.store lenI s2b (i := v.toNat) (by omega) (k : Int) (v := .int .i64 (k : Int)) rfl size_Int (oneI _) fun w19 r19 m19 _ => ?_
        have m19' : Mod (fun b => b = br) w18 w19 := m19
        have u19 := u18.mod m19' fun a ha e => by rw [s1b] at ha; cases ha; exact zbg (Eq.symm e)
        have hC19 := (hC17.mod m18' fun b hb e => (fC17 b hb).2.2.1 e).mod m19' fun b hb e => (fC17 b hb).2.2.2.1 e
        have hA19 := (hA17.mod m18' fun b hb e => (fA12 b hb).2.1 e).mod m19' fun b hb e => (fA12 b hb).2.2.1 e
        have l19 := l18.mod m19' (show ¬ bl = br by omega)
        have K19 : Keep W w19 := (Mod.fresh K17 m18' fun b e => by have e' : b = bg := e; omega).fresh m19' fun b e => by have e' : b = br := e; omega
        have zz : w3.heap.size ≤ w19.heap.size := by have := m17'.size; have := m18.size; have := m19.size; omega
        show X (IntKind.wrap .i64 ((k : Int) + 1), ()) w19
        rw [wi_ k (by omega)]
        exact hX _ _ _ (by omega) ⟨k + 1, sC3, sA2, hk', rfl, rfl, by rw [hst]; exact hC19, by rw [hst]; exact hA19, by rw [hst]; exact u19, by rw [hst]; exact r19, l19, K19, fC17, fA12, zz⟩
    · have e : k = n := by omega
      subst e
      refine hQ w9 ⟨gA, sA', bl, s2⟩ ⟨ol9, hA9, u2, hinv.rl⟩ K9 fun b hb => ?_
      rcases hb with hb | hb | ⟨a, ha, hb⟩
      · have hb' : b = bl := hb
        omega
      · exact (fA9 b hb).1
      · have ha' : s2.b = some a := ha
        rw [s2b] at ha'; cases ha'
        have hb' : b = br := hb
        omega
  refine onSome_i rfl (ld1_i (k := .int .i64) (n : Int) (h.keep d0).c0 ?_)
  constructor
  · refine rCopy_i (h.keep d0) (by omega) fun w13 gA sA hA k13 fA => ?_
    refine ⟨((h.keep d0).keep k13).c0, ?_⟩
    refine make_i elem_sInt (enc := eI) (0 : Int) rfl lenI (by omega) (Int.le_refl _) (by omega) (by omega) fun w14 v14 k14 => ?_
    simp only [Int.toNat_natCast] at v14 ⊢
    refine alloc_i fun w15 o15 k15 z15 => ?_
    have K13 := d0.tr k13
    have zW := K13.size
    have z1314 : w13.heap.size < w14.heap.size := v14.lt rfl
    refine after w15 gA sA _ w14.heap.size w13.heap.size ((hA.keep k14).keep k15) rfl (v14.mod k15 fun _ _ => id) o15 ((K13.tr k14).tr k15) (fun b hb => ?_) (by omega) (by omega) (by omega)
    have h1 := fA b hb
    have h2 := hA.lt hb
    exact ⟨by omega, by omega, by omega⟩
  · refine make_i elem_sInt (enc := eI) (0 : Int) rfl lenI (by omega) (Int.le_refl _) (by omega) (by omega) fun w16 v16 k16 => ?_
    simp only [Int.toNat_natCast] at v16 ⊢
    have K16 := d0.tr k16
    refine rCopy_i (h.keep K16) (by omega) fun w17 gA sA hA k17 fA => ?_
    refine alloc_i fun w18 o18 k18 z18 => ?_
    have zW := K16.size
    have z0 : W.drew.heap.size < w16.heap.size := v16.lt rfl
    have z17 : w16.heap.size ≤ w17.heap.size := k17.size
    refine after w18 gA sA _ w17.heap.size W.drew.heap.size (hA.keep k18) rfl ((v16.mod k17 fun _ _ => id).mod k18 fun _ _ => id) o18 ((K16.tr k17).tr k18) (fun b hb => ?_) (by omega) (by omega) (by omega)
    have h1 := fA b hb
    have h2 := hA.lt hb
    exact ⟨by omega, by omega, by omega⟩
end Go.Proofs.Ytkghlmaalkmdkaa

/-
  The levels that the laws build.
-/
namespace Go.Proofs.Ytkghlmaalkmdkaa
open Go Go.Den

theorem lenR3 : ∀ r : R3, (eR3 r).length = 3 := fun _ => rfl
theorem rd_r3 {w : World} {rows : List R3} {cs : Array Value} (hc : cs.toList = rows.flatMap eR3) (n : Nat) (hn : n = rows.length) (hm : n ≤ 100) : Rd (w.alloc (.cells cs tArr3)) ⟨some ⟨w.heap.size, 0, none⟩, n, n⟩ 3 eR3 rows := by
  subst hn
  exact (Vec.lit w tArr3 eR3 lenR3 rows cs hc (by simp [maxLen]; omega)).rd lenR3
theorem netOf_w {n : Int} {rows : List R3} : ∀ e ∈ netOf n rows, e.w ≤ 20 ∧ e.m = -1 := by
  intro e he
  rcases putAll_sub _ he with h | h
  · cases h
  · unfold arcsOf at h
    split at h
    · cases h
    · obtain ⟨r, _, hr⟩ := List.mem_flatMap.1 h
      unfold arcOf3 at hr
      split at hr
      · cases hr
      · simp at hr
        subst hr
        have := Int.emod_lt_of_pos r.2.2 (b := 20) (by omega)
        exact ⟨by show 1 + r.2.2 % 20 ≤ 20; omega, rfl⟩

theorem built_i {n : Int} {l : Sl} {rows : List R3} {W : World} {Q : Option Addr → Option Addr → Option Addr → World → Prop} (h0 : 0 ≤ n) (hn : n ≤ 30) (hl : Rd W l 3 eR3 rows) (hlen : rows.length ≤ 1000)
    (hQ : ∀ w' H RH g s, LevIs w' H n.toNat (bldN n.toNat (netOf n rows) n.toNat).all (bldN n.toNat (netOf n rows) n.toNat).rank → RLevIs w' RH n.toNat (bldN n.toNat (netOf n rows) n.toNat).all (bldN n.toNat (netOf n rows) n.toNat).rank → RNetIs w' g s n.toNat (netOf n rows) → Keep W w' →
      (∀ k, H.has k → W.heap.size ≤ k) → Q (some ⟨H.gl, 0, none⟩) (some ⟨RH.gl, 0, none⟩) (some ⟨g, 0, none⟩) w') : F_law18_built n l W Q := by
  unfold F_law18_built
  refine made_i h0 (by omega) hl hlen fun w1 N g s hN hR _ k1 _ _ => ?_
  have hw := fun e he => (netOf_w (n := n) (rows := rows) e he).1
  refine cond_i (fun h => by simp at h) (fun _ => ?_)
  refine Build_i hN (by omega) hw fun w2 H hH k2 fH => ?_
  refine rBuild_i (hR.keep k2) (by omega) hw fun w3 RH hRH k3 _ => ?_
  exact hQ w3 H RH g s (hH.keep k3) hRH ((hR.keep k2).keep k3) ((k1.tr k2).tr k3) fun k hk => Nat.le_trans k1.size (fH k hk)
end Go.Proofs.Ytkghlmaalkmdkaa
