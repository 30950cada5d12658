/-
  The document's heap: a row by key, then by number.
-/
import Derived.Test.YtadacfoiphklgaaFHeap
import Derived.Test.YtadacfoiphklgaaMqHeap2
namespace Go.Proofs.Ytadacfoiphklgaa
open Go Go.Den

structure RHeapIs (w : World) (g : Nat) (s : Sl) (q : List It) : Prop where
  head : Own w g tRHeap [sv s]
  rd : Rd w s 2 eIt q
  sep : ∀ a, s.b = some a → a.block ≠ g ∧ a.block < w.heap.size
  srt : QSrt q
  one : One q
def hhas (g : Nat) (s : Sl) (k : Nat) : Prop := k = g ∨ ∃ a, s.b = some a ∧ k = a.block

theorem key_store0 {w : World} {g : Nat} {cs : List Value} {x : It} {K : World → Prop} (h : Own w g tKey cs) (hl : cs.length = 2) (hK : ∀ w', Own w' g tKey (eIt x) → Mod (fun k => k = g) w w' → K w') :
    storeD Try.prog tKey ⟨g, 0, none⟩ (itV x) w K := by
  refine storeD_i h size_Key (by simp [Value.cells, hl]) (by simp [Value.cells, Value.oneCell']) fun w' ho hm _ => hK w' ?_ hm
  have : cs.take 0 ++ (itV x).cells.toList ++ cs.drop (0 + (itV x).cells.size) = eIt x := by
    simp [Value.cells, List.drop_of_length_le (show cs.length ≤ 2 by omega)]
  rwa [this] at ho
theorem own_key {w : World} {g : Nat} {x : It} (h : Own w g tKey (eIt x)) : HoldsAt w ⟨g, 0, none⟩ 0 (encs [.int .i64, .int .i64] (tupI x)) := h.holds fun j v hj => by rw [Nat.zero_add]; exact hj

section
variable {w : World} {g : Nat} {s : Sl} {q : List It}
theorem RHeapIs.mod {F : Nat → Prop} {w' : World} (h : RHeapIs w g s q) (m : Mod F w w') (hF : ∀ k, hhas g s k → ¬ F k) : RHeapIs w' g s q :=
  ⟨h.head.mod m (hF _ (.inl rfl)), h.rd.mod m eIt_ne fun a ha => hF _ (.inr ⟨a, ha, rfl⟩), fun a ha => ⟨(h.sep a ha).1, Nat.lt_of_lt_of_le (h.sep a ha).2 m.size⟩, h.srt, h.one⟩
theorem RHeapIs.keep {w' : World} (h : RHeapIs w g s q) (k : Keep w w') : RHeapIs w' g s q := h.mod k fun _ _ => id
theorem RHeapIs.lt (h : RHeapIs w g s q) {k : Nat} (hk : hhas g s k) : k < w.heap.size := by
  rcases hk with rfl | ⟨a, ha, rfl⟩
  · exact h.head.lt
  · exact (h.sep a ha).2
theorem RHeapIs.c0 (h : RHeapIs w g s q) : w.cell? ((⟨g, 0, none⟩ : Addr).add 0) = some (sv s) := by rw [addr_lit, h.head.cell]; rfl

theorem RFind_i {vid : Int} {Q : Int → World → Prop} (h : RHeapIs w g s q) (hl : q.length < 1000000) (hno : keyQ q vid = none → Q (-1) w) (hyes : ∀ (j : Nat) y, q[j]? = some y → y.id = vid → Q (j : Int) w) : F_ref4_Heap_Find (some ⟨g, 0, none⟩) vid w Q := by
  unfold F_ref4_Heap_Find
  have sl := h.rd.len
  refine loop_i (fun c t w1 => ∃ (i : Nat), i ≤ q.length ∧ c = q.length - i ∧ t = ((i : Int), ()) ∧ w1 = w ∧ ∀ j y, j < i → q[j]? = some y → y.id ≠ vid) q.length ⟨0, Nat.zero_le _, rfl, rfl, rfl, fun j y hj => by omega⟩ ?_
  rintro c t w1 ⟨i, hi, rfl, rfl, rfl, hn⟩ X hX
  dsimp only
  refine onSome_i rfl (ld1_i (k := .slice) s h.c0 ?_)
  refine cond_d (fun hlt => ?_) (fun hge => ?_)
  · have hget := List.getElem?_eq_getElem (show i < q.length by omega)
    generalize q[i] = y at *
    obtain ⟨p, hp, hh⟩ := rd_it h.rd hget
    rw [Int.toNat_natCast]
    refine onSome_i rfl (ld1_i (k := .slice) s h.c0 ⟨⟨by omega, hlt⟩, onSome_i hp (ld1_i (k := .int .i64) y.id hh.1 ?_)⟩)
    refine cond_i (fun he => hyes i y hget (by simpa using he)) (fun hne => ?_)
    rw [w64 (by omega) (by omega)]
    refine hX (q.length - (i + 1)) _ _ (by omega) ⟨i + 1, by omega, rfl, rfl, rfl, fun j z hj hz => ?_⟩
    rcases Nat.lt_or_ge j i with hh' | hh'
    · exact hn j z hh' hz
    · have : j = i := by omega
      subst this
      rw [hget] at hz; cases hz
      simpa using hne
  · refine hno ?_
    cases hk : keyQ q vid with
    | none => rfl
    | some k =>
      obtain ⟨j, hj⟩ := List.mem_iff_getElem?.1 (keyQ_some hk)
      have := (List.getElem?_eq_some_iff.1 hj).1
      exact absurd rfl (hn j _ (by omega) hj)

/-- A row without one. -/
theorem take_drop_filter {q : List It} (h : One q) (hd : q.Nodup) {j : Nat} {y : It} (hy : q[j]? = some y) : q.take j ++ q.drop (j + 1) = q.filter fun x => decide (x.id ≠ y.id) := by
  have hj := (List.getElem?_eq_some_iff.1 hy).1
  have e : q = q.take j ++ y :: q.drop (j + 1) := by
    have := List.drop_eq_getElem_cons hj
    rw [(List.getElem?_eq_some_iff.1 hy).2] at this
    rw [← this, List.take_append_drop]
  have hd' := hd
  rw [e, List.nodup_append] at hd'
  obtain ⟨_, hd2, hd3⟩ := hd'
  rw [List.nodup_cons] at hd2
  have hne : ∀ x ∈ q, x ≠ y → x.id ≠ y.id := fun x hx hxy e' => hxy (h x hx y (List.mem_of_getElem? hy) e')
  conv => rhs; rw [e]
  rw [List.filter_append, List.filter_cons, if_neg (by simp)]
  congr 1
  · exact (List.filter_eq_self.2 fun x hx => by simpa using hne x (List.mem_of_mem_take hx) fun e' => hd3 x hx y (by simp) e').symm
  · exact (List.filter_eq_self.2 fun x hx => by simpa using hne x (List.mem_of_mem_drop hx) fun e' => hd2.1 (e' ▸ hx)).symm

/-- One is put at its place. -/
theorem ins_take {q : List It} (h : QSrt q) {x : It} {i : Nat} (h1 : ∀ j y, j < i → q[j]? = some y → itlt y x = true) (h2 : ∀ y, q[i]? = some y → itlt y x = false) (hx : x ∉ q) : q.take i ++ [x] ++ q.drop i = insQ q x := by
  have lo : ∀ y ∈ q.take i, itlt y x = true := fun y hy => by
    obtain ⟨j, hj⟩ := List.mem_iff_getElem?.1 hy
    have hlt := (List.getElem?_eq_some_iff.1 hj).1
    rw [List.length_take] at hlt
    rw [List.getElem?_take_of_lt (by omega)] at hj
    exact h1 j y (by omega) hj
  have hi' : ∀ y ∈ q.drop i, itlt y x = false := fun y hy => by
    obtain ⟨j, hj⟩ := List.mem_iff_getElem?.1 hy
    rw [List.getElem?_drop] at hj
    have hlt := (List.getElem?_eq_some_iff.1 hj).1
    have h0 := h2 _ (List.getElem?_eq_getElem (show i < q.length by omega))
    by_cases e : j = 0
    · subst e; rw [Nat.add_zero, List.getElem?_eq_getElem (show i < q.length by omega)] at hj; cases hj; exact h0
    · have h3 := List.pairwise_iff_getElem.1 h i (i + j) (by omega) hlt (by omega)
      have e1 : q[i + j] = y := (List.getElem?_eq_some_iff.1 hj).2
      rw [e1] at h3
      exact le_trans' h0 (lt_le h3)
  obtain ⟨e1, e2⟩ := filter_split (p := fun y => itlt y x) lo hi'
  unfold insQ
  rw [e1, List.append_assoc, List.singleton_append]
  congr 2
  rw [← e2]
  refine List.filter_congr fun y hy => ?_
  rcases itlt_tri y x with h | h | h
  · rw [h, Bool.not_true]
    have := lt_le h
    rw [this]
  · subst h; exact absurd hy hx
  · rw [h, lt_le h]; rfl

theorem put_key {w1 : World} {s5 : Sl} {q' : List It} {K : World → Prop} (o : Own w1 g tRHeap [sv s]) (v : Vec w1 tKey 2 eIt s5 q') (hs : ∀ a, s5.b = some a → a.block ≠ g) (h1 : QSrt q') (h2 : One q')
    (hK : ∀ w', RHeapIs w' g s5 q' → Mod (fun k => k = g) w1 w' → K w') : storeD Try.prog tsKey ((⟨g, 0, none⟩ : Addr).add 0) (.slice s5.b s5.l s5.c) w1 K := by
  rw [addr_lit]
  refine storeD1_i o size_sKey (by simp) rfl rfl fun w' o' m' _ => hK w' ⟨o', (v.mod m' hs).rd lenIt, fun a ha => ⟨hs a ha, (v.mod m' hs).lt ha⟩, h1, h2⟩ m'

theorem RPush_i {vid key : Int} {Q : Bool → World → Prop} (h : RHeapIs w g s q) (hlen : q.length < 100000)
    (hQ : ∀ w' s', RHeapIs w' g s' (pushQ q vid key).1 → Mod (fun k => k = g) w w' → (∀ k, hhas g s' k → hhas g s k ∨ w.heap.size ≤ k) → Q (pushQ q vid key).2 w') : F_ref4_Heap_Push (some ⟨g, 0, none⟩) vid key w Q := by
  unfold F_ref4_Heap_Push
  have hgl := h.head.lt
  have sl := h.rd.len
  -- put into what holds it not
  have core : ∀ (w2 : World) (s2 : Sl) (q2 : List It), RHeapIs w2 g s2 q2 → q2.length < 100000 → (∀ y ∈ q2, y.id ≠ vid) → Mod (fun k => k = g) w w2 → (∀ k, hhas g s2 k → hhas g s k ∨ w.heap.size ≤ k) → lowQ q vid key = false → q2 = (q.filter fun y => decide (y.id ≠ vid)) →
      ∀ J2 : (Int × Unit) → World → Prop, (∀ (i : Nat) (w3 : World), w3 = w2 → i ≤ q2.length → q2.take i ++ [⟨vid, key⟩] ++ q2.drop i = insQ q2 ⟨vid, key⟩ → (
      onSome (some (⟨g, 0, none⟩ : Addr)) fun a1 =>
      ld1 .slice w3.drew (a1.add 0) fun (s1 : Sl) =>
      (0 ≤ (i : Int) ∧ (i : Int) ≤ ((s1.c : Nat) : Int)) ∧
      onSome (some (⟨g, 0, none⟩ : Addr)) fun a2 =>
      ld1 .slice w3.drew (a2.add 0) fun (s2 : Sl) =>
      (0 ≤ (i : Int) ∧ (i : Int) ≤ ((s2.l : Nat) : Int)) ∧
      (allocD w3.drew #[] tKey fun a3 w4 =>
      w4.cell? (a2.add 0) = some (Value.slice s2.b s2.l s2.c) ∧
      w4.cell? (a1.add 0) = some (Value.slice s1.b s1.l s1.c) ∧
      (appendD Try.prog tsKey tsKey ⟨(some a3), 0, 0⟩ (Value.slice (sliceAddr s1.b s1.c 0 2) ((Int.toNat (i : Int)) - 0) (s1.c - 0)) w4 fun (s3 : Sl) w5 =>
      w5.cell? (a2.add 0) = some (Value.slice s2.b s2.l s2.c) ∧
      allocD w5 #[Value.int .i64 vid, Value.int .i64 key] tKey fun a4 w6 =>
      w6.cell? (a2.add 0) = some (Value.slice s2.b s2.l s2.c) ∧
      appendD Try.prog tsKey tsKey s3 (Value.slice (some a4) 1 1) w6 fun (s4 : Sl) w7 =>
      w7.cell? (a2.add 0) = some (Value.slice s2.b s2.l s2.c) ∧
      appendD Try.prog tsKey tsKey s4 (Value.slice (sliceAddr s2.b s2.c (Int.toNat (i : Int)) 2) (s2.l - (Int.toNat (i : Int))) (s2.c - (Int.toNat (i : Int)))) w7 fun (s5 : Sl) w8 =>
      onSome (some (⟨g, 0, none⟩ : Addr)) fun a5 =>
      storeD Try.prog tsKey (a5.add 0) (Value.slice s5.b s5.l s5.c) w8 fun w9 =>
      Q true w9) ∧
      (allocD w4 #[Value.int .i64 vid, Value.int .i64 key] tKey fun a6 w10 =>
      w10.cell? (a2.add 0) = some (Value.slice s2.b s2.l s2.c) ∧
      w10.cell? (a1.add 0) = some (Value.slice s1.b s1.l s1.c) ∧
      appendD Try.prog tsKey tsKey ⟨(some a3), 0, 0⟩ (Value.slice (sliceAddr s1.b s1.c 0 2) ((Int.toNat (i : Int)) - 0) (s1.c - 0)) w10 fun (s6 : Sl) w11 =>
      w11.cell? (a2.add 0) = some (Value.slice s2.b s2.l s2.c) ∧
      appendD Try.prog tsKey tsKey s6 (Value.slice (some a6) 1 1) w11 fun (s7 : Sl) w12 =>
      w12.cell? (a2.add 0) = some (Value.slice s2.b s2.l s2.c) ∧
      appendD Try.prog tsKey tsKey s7 (Value.slice (sliceAddr s2.b s2.c (Int.toNat (i : Int)) 2) (s2.l - (Int.toNat (i : Int))) (s2.c - (Int.toNat (i : Int)))) w12 fun (s8 : Sl) w13 =>
      onSome (some (⟨g, 0, none⟩ : Addr)) fun a7 =>
      storeD Try.prog tsKey (a7.add 0) (Value.slice s8.b s8.l s8.c) w13 fun w14 =>
      Q true w14)) ∧
      (allocD w3.drew #[Value.int .i64 vid, Value.int .i64 key] tKey fun a8 w15 =>
      w15.cell? (a2.add 0) = some (Value.slice s2.b s2.l s2.c) ∧
      w15.cell? (a1.add 0) = some (Value.slice s1.b s1.l s1.c) ∧
      allocD w15 #[] tKey fun a9 w16 =>
      w16.cell? (a2.add 0) = some (Value.slice s2.b s2.l s2.c) ∧
      w16.cell? (a1.add 0) = some (Value.slice s1.b s1.l s1.c) ∧
      appendD Try.prog tsKey tsKey ⟨(some a9), 0, 0⟩ (Value.slice (sliceAddr s1.b s1.c 0 2) ((Int.toNat (i : Int)) - 0) (s1.c - 0)) w16 fun (s9 : Sl) w17 =>
      w17.cell? (a2.add 0) = some (Value.slice s2.b s2.l s2.c) ∧
      appendD Try.prog tsKey tsKey s9 (Value.slice (some a8) 1 1) w17 fun (s10 : Sl) w18 =>
      w18.cell? (a2.add 0) = some (Value.slice s2.b s2.l s2.c) ∧
      appendD Try.prog tsKey tsKey s10 (Value.slice (sliceAddr s2.b s2.c (Int.toNat (i : Int)) 2) (s2.l - (Int.toNat (i : Int))) (s2.c - (Int.toNat (i : Int)))) w18 fun (s11 : Sl) w19 =>
      onSome (some (⟨g, 0, none⟩ : Addr)) fun a10 =>
      storeD Try.prog tsKey (a10.add 0) (Value.slice s11.b s11.l s11.c) w19 fun w20 =>
      Q true w20)) → J2 ((i : Int), ()) w3) → ∀ X1 : (Int × Unit) → World → Prop, (∀ (t3 : Int × Unit) (w21 : World), (
  onSome (some (⟨g, 0, none⟩ : Addr)) fun a11 =>
  ld1 .slice w21 (a11.add 0) fun (s12 : Sl) =>
  cond (decide (t3.1 < ((s12.l : Nat) : Int)))
  (onSome (some (⟨g, 0, none⟩ : Addr)) fun a12 =>
  ld1 .slice w21 (a12.add 0) fun (s13 : Sl) =>
  (0 ≤ t3.1 ∧ t3.1 < ((s13.l : Nat) : Int)) ∧
  onSome s13.b fun a13 =>
  ld1 (.int .i64) w21 ((a13.add (Int.toNat t3.1 * 2)).add 1) fun (x2 : Int) =>
  cond (decide (x2 < key))
  (X1 ((IntKind.wrap .i64 (t3.1 + (1 : Int))), ()) w21)
  (onSome (some (⟨g, 0, none⟩ : Addr)) fun a14 =>
  ld1 .slice w21 (a14.add 0) fun (s14 : Sl) =>
  (0 ≤ t3.1 ∧ t3.1 < ((s14.l : Nat) : Int)) ∧
  onSome s14.b fun a15 =>
  ld1 (.int .i64) w21 ((a15.add (Int.toNat t3.1 * 2)).add 1) fun (x3 : Int) =>
  cond (x3 == key)
  (onSome (some (⟨g, 0, none⟩ : Addr)) fun a16 =>
  ld1 .slice w21 (a16.add 0) fun (s15 : Sl) =>
  (0 ≤ t3.1 ∧ t3.1 < ((s15.l : Nat) : Int)) ∧
  onSome s15.b fun a17 =>
  ld1 (.int .i64) w21 ((a17.add (Int.toNat t3.1 * 2)).add 0) fun (x4 : Int) =>
  cond (decide (x4 < vid))
  (X1 ((IntKind.wrap .i64 (t3.1 + (1 : Int))), ()) w21)
  (J2 (t3.1, ()) w21))
  (J2 (t3.1, ()) w21)))
  (J2 (t3.1, ()) w21)) → X1 t3 w21) →
  X1 ((0 : Int), ()) w2 := by
    intro w2 s2 q2 h2 hl2 hno2 m2 f2 hlow hq2 J2 hJ2
    have sl2 := h2.rd.len
    have hxn : (⟨vid, key⟩ : It) ∉ q2 := fun hx => hno2 _ hx rfl
    have hcap := h2.rd.cap
    -- what is put
    have goJ : ∀ (i : Nat), i ≤ q2.length → (∀ j y, j < i → q2[j]? = some y → itlt y ⟨vid, key⟩ = true) → (∀ y, q2[i]? = some y → itlt y ⟨vid, key⟩ = false) → J2 ((i : Int), ()) w2 := by
      intro i hi hbefore hat
      have hins := ins_take h2.srt hbefore hat hxn
      refine hJ2 i w2 rfl hi hins ?_
      have dD : Keep w2 w2.drew := Mod.drew (Mod.refl _ w2)
      have hd := h2.keep dD
      have hp : (pushQ q vid key) = (insQ q2 ⟨vid, key⟩, true) := by unfold pushQ; rw [hlow, if_neg (by simp), hq2]
      have hp1 : (pushQ q vid key).1 = insQ q2 ⟨vid, key⟩ := by rw [hp]
      have hp2 : (pushQ q vid key).2 = true := by rw [hp]
      rw [hp1, hp2] at hQ
      have hone : One (insQ q2 ⟨vid, key⟩) := by
        rw [← hp1]; exact push_one h.one vid key
      have hgl2 := h2.head.lt
      -- the last three steps
      have last : ∀ {wx : World} {r : Sl} {b : Nat}, Keep w2 wx → Vec wx tKey 2 eIt r (q2.take i) → (∀ a, r.b = some a → w2.heap.size ≤ a.block) → Own wx b tKey (eIt ⟨vid, key⟩) → w2.heap.size ≤ b → (∀ a, r.b = some a → a.block ≠ b) →
          appendD Try.prog tsKey tsKey r (Value.slice (some ⟨b, 0, none⟩) 1 1) wx fun (s4 : Sl) w7 =>
          w7.cell? ((⟨g, 0, none⟩ : Addr).add 0) = some (Value.slice s2.b s2.l s2.c) ∧
          appendD Try.prog tsKey tsKey s4 (Value.slice (sliceAddr s2.b s2.c (Int.toNat (i : Int)) 2) (s2.l - (Int.toNat (i : Int))) (s2.c - (Int.toNat (i : Int)))) w7 fun (s5 : Sl) w8 =>
          onSome (some (⟨g, 0, none⟩ : Addr)) fun a5 =>
          storeD Try.prog tsKey (a5.add 0) (Value.slice s5.b s5.l s5.c) w8 fun w9 => Q true w9 := by
        intro wx r b kx vx fx ob hb hne
        have rb : Rd wx ⟨some ⟨b, 0, none⟩, 1, 1⟩ 2 eIt [⟨vid, key⟩] := ⟨rfl, Nat.le_refl _, fun j y hy => by
          have : j = 0 := by have := (List.getElem?_eq_some_iff.1 hy).1; simp at this; exact this
          subst this
          simp at hy; subst hy
          exact ⟨_, rfl, by rw [Nat.zero_mul, add_zero]; exact own_key ob⟩⟩
        have tl : (q2.take i).length ≤ 100000 := by rw [List.length_take]; omega
        refine append_i elem_sKey lenIt oneIt vx rb (by simp only [List.length_singleton]; omega) (by simp only [List.length_singleton]; omega) fun s4 w7 v7 m7 f7 _ => ?_
        have k7 : Keep w2 w7 := kx.fresh m7 fun k ⟨a, ha, e⟩ => by subst e; exact fx a ha
        have h7 := h2.keep k7
        have f7' : ∀ a, s4.b = some a → w2.heap.size ≤ a.block := fun a ha => by
          rcases f7 with e | ⟨a', e, hle⟩
          · exact fx a (e ▸ ha)
          · rw [e] at ha; cases ha; exact Nat.le_trans kx.size hle
        refine ⟨h7.c0, ?_⟩
        have part := h7.rd.part (i := i) (j := s2.l) (c := s2.c) (by omega) (Nat.le_refl _) hcap (Nat.le_refl _)
        rw [List.take_of_length_le (by rw [List.length_drop]; omega)] at part
        rw [Int.toNat_natCast]
        have dl : (q2.drop i).length ≤ 100000 := by rw [List.length_drop]; omega
        have al : (q2.take i ++ [(⟨vid, key⟩ : It)]).length ≤ 100001 := by rw [List.length_append]; simp only [List.length_singleton]; omega
        refine append_i elem_sKey lenIt oneIt v7 part (by omega) (by omega) fun s5 w8 v8 m8 f8 _ => ?_
        have k8 : Keep w2 w8 := k7.fresh m8 fun k ⟨a, ha, e⟩ => by subst e; exact f7' a ha
        have f8' : ∀ a, s5.b = some a → w2.heap.size ≤ a.block := fun a ha => by
          rcases f8 with e | ⟨a', e, hle⟩
          · exact f7' a (e ▸ ha)
          · rw [e] at ha; cases ha; exact Nat.le_trans k7.size hle
        rw [hins] at v8
        refine onSome_i rfl ?_
        refine put_key (h2.keep k8).head v8 (fun a ha => by have := f8' a ha; omega) (QSrt.ins h2.srt _) hone fun w9 h9 m9 => ?_
        refine hQ w9 s5 h9 (m2.tr (k8.wk.tr m9)) fun k hk => ?_
        rcases hk with rfl | ⟨a, ha, rfl⟩
        · exact .inl (.inl rfl)
        · exact .inr (Nat.le_trans m2.size (f8' a ha))
      have headP : ∀ {wx : World}, Keep w2 wx → Rd wx ⟨sliceAddr s2.b s2.c 0 2, i - 0, s2.c - 0⟩ 2 eIt (q2.take i) := fun {wx} kx => by
        have := (h2.keep kx).rd.part (i := 0) (j := i) (c := s2.c) (Nat.zero_le _) (by omega) (by omega) (Nat.le_refl _)
        simpa using this
      have tl : (q2.take i).length ≤ 100000 := by rw [List.length_take]; omega
      have vE : ∀ (wx : World), Vec (wx.alloc (.cells #[] 76)) tKey 2 eIt ⟨some ⟨wx.heap.size, 0, none⟩, 0, 0⟩ [] := fun wx => Vec.lit wx tKey eIt lenIt [] #[] rfl (by simp)
      have c2 : ∀ {wx : World}, Keep w2 wx → wx.cell? ((⟨g, 0, none⟩ : Addr).add 0) = some (Value.slice s2.b s2.l s2.c) := fun {wx} kx => (h2.keep kx).c0
      refine onSome_i rfl (ld1_i (k := .slice) s2 hd.c0 ⟨⟨by omega, by omega⟩, onSome_i rfl (ld1_i (k := .slice) s2 hd.c0 ⟨⟨by omega, by omega⟩, ?_⟩)⟩)
      simp only [allocD]
      rw [Int.toNat_natCast]
      have kA := dD.tr (Keep.alloc w2.drew (.cells #[] 76))
      have vA := vE w2.drew
      have sA : (w2.drew.alloc (.cells #[] 76)).heap.size = w2.heap.size + 1 := by simp
      have szd : w2.drew.heap.size = w2.heap.size := rfl
      constructor
      · generalize w2.drew.alloc (.cells #[] 76) = wA at *
        refine ⟨c2 kA, c2 kA, ?_, ?_⟩
        · refine append_i elem_sKey lenIt oneIt vA (headP kA) (by simp; omega) (by simp; omega) fun s3 w5 v5 m5 f5 _ => ?_
          rw [List.nil_append] at v5
          have k5 : Keep w2 w5 := kA.fresh m5 fun k ⟨a, ha, e⟩ => by cases ha; subst e; rw [szd]; exact Nat.le_refl _
          have f5' : ∀ a, s3.b = some a → w2.heap.size ≤ a.block := fun a ha => by
            rcases f5 with e | ⟨a', e, hle⟩
            · rw [e] at ha; cases ha; rw [szd]; exact Nat.le_refl _
            · rw [e] at ha; cases ha; exact Nat.le_trans kA.size hle
          refine ⟨c2 k5, ?_⟩
          have k6 := k5.tr (Keep.alloc w5 (.cells #[Value.int .i64 vid, Value.int .i64 key] 76))
          have o6 : Own (w5.alloc (.cells #[Value.int .i64 vid, Value.int .i64 key] 76)) w5.heap.size tKey (eIt ⟨vid, key⟩) := Own.alloc' w5 _ _
          have v6 := v5.mod (Keep.alloc w5 (.cells #[Value.int .i64 vid, Value.int .i64 key] 76)) fun _ _ => id
          refine ⟨c2 k6, ?_⟩
          exact last k6 v6 f5' o6 k5.size fun a ha e => by have := v5.lt ha; omega
        · have kB := kA.tr (Keep.alloc wA (.cells #[Value.int .i64 vid, Value.int .i64 key] 76))
          have oB : Own (wA.alloc (.cells #[Value.int .i64 vid, Value.int .i64 key] 76)) wA.heap.size tKey (eIt ⟨vid, key⟩) := Own.alloc' wA _ _
          have vB := vA.mod (Keep.alloc wA (.cells #[Value.int .i64 vid, Value.int .i64 key] 76)) fun _ _ => id
          refine ⟨c2 kB, c2 kB, ?_⟩
          refine append_i elem_sKey lenIt oneIt vB (headP kB) (by simp; omega) (by simp; omega) fun s3 w5 v5 m5 f5 _ => ?_
          rw [List.nil_append] at v5
          have k5 : Keep w2 w5 := kB.fresh m5 fun k ⟨a, ha, e⟩ => by cases ha; subst e; rw [szd]; exact Nat.le_refl _
          have f5' : ∀ a, s3.b = some a → w2.heap.size ≤ a.block ∧ a.block ≠ wA.heap.size := fun a ha => by
            rcases f5 with e | ⟨a', e, hle⟩
            · rw [e] at ha; cases ha; rw [szd]; exact ⟨Nat.le_refl _, by rw [sA]; show w2.heap.size ≠ _; omega⟩
            · rw [e] at ha; cases ha; have := oB.lt; exact ⟨Nat.le_trans kB.size hle, by omega⟩
          refine ⟨c2 k5, ?_⟩
          exact last k5 v5 (fun a ha => (f5' a ha).1) (oB.mod m5 fun ⟨a, ha, e⟩ => by cases ha; have e' : wA.heap.size = w2.heap.size := e; omega) (by omega) fun a ha => (f5' a ha).2
      · have kC := dD.tr (Keep.alloc w2.drew (.cells #[Value.int .i64 vid, Value.int .i64 key] 76))
        have oC : Own (w2.drew.alloc (.cells #[Value.int .i64 vid, Value.int .i64 key] 76)) w2.drew.heap.size tKey (eIt ⟨vid, key⟩) := Own.alloc' w2.drew _ _
        have sC : (w2.drew.alloc (.cells #[Value.int .i64 vid, Value.int .i64 key] 76)).heap.size = w2.heap.size + 1 := by simp
        generalize w2.drew.alloc (.cells #[Value.int .i64 vid, Value.int .i64 key] 76) = wC at *
        have kD := kC.tr (Keep.alloc wC (.cells #[] 76))
        have vD := vE wC
        have oD := oC.mod (Keep.alloc wC (.cells #[] 76)) id
        refine ⟨c2 kC, c2 kC, c2 kD, c2 kD, ?_⟩
        refine append_i elem_sKey lenIt oneIt vD (headP kD) (by simp; omega) (by simp; omega) fun s3 w5 v5 m5 f5 _ => ?_
        rw [List.nil_append] at v5
        have k5 : Keep w2 w5 := kD.fresh m5 fun k ⟨a, ha, e⟩ => by cases ha; subst e; exact kC.size
        have f5' : ∀ a, s3.b = some a → w2.heap.size ≤ a.block ∧ a.block ≠ w2.drew.heap.size := fun a ha => by
          rcases f5 with e | ⟨a', e, hle⟩
          · rw [e] at ha; cases ha; exact ⟨kC.size, by rw [szd]; show wC.heap.size ≠ _; omega⟩
          · rw [e] at ha; cases ha; have := oD.lt; exact ⟨Nat.le_trans kD.size hle, by omega⟩
        refine ⟨c2 k5, ?_⟩
        exact last k5 v5 (fun a ha => (f5' a ha).1) (oD.mod m5 fun ⟨a, ha, e⟩ => by cases ha; rw [szd] at e; have e' : w2.heap.size = wC.heap.size := e; omega) (Nat.le_refl _) fun a ha => (f5' a ha).2
    refine loop_i (fun c t w3 => ∃ (i : Nat), i ≤ q2.length ∧ c = q2.length - i ∧ t = ((i : Int), ()) ∧ w3 = w2 ∧ (∀ j y, j < i → q2[j]? = some y → itlt y ⟨vid, key⟩ = true)) q2.length ⟨0, Nat.zero_le _, rfl, rfl, rfl, fun j y hj => by omega⟩ ?_
    rintro c t w3 ⟨i, hi, rfl, rfl, rfl, hbef⟩ X hX
    dsimp only
    refine onSome_i rfl (ld1_i (k := .slice) s2 h2.c0 ?_)
    refine cond_d (fun hlt => ?_) (fun hge => ?_)
    · have hget := List.getElem?_eq_getElem (show i < q2.length by omega)
      generalize q2[i] = y at *
      obtain ⟨p, hp, hh⟩ := rd_it h2.rd hget
      have bnd : 0 ≤ (i : Int) ∧ (i : Int) < (s2.l : Int) := ⟨by omega, hlt⟩
      have next : itlt y ⟨vid, key⟩ = true → X (IntKind.wrap .i64 ((i : Int) + 1), ()) w3 := fun hy => by
        rw [w64 (by omega) (by omega)]
        refine hX (q2.length - (i + 1)) _ _ (by omega) ⟨i + 1, by omega, rfl, rfl, rfl, fun j z hj hz => ?_⟩
        rcases Nat.lt_or_ge j i with hh' | hh'
        · exact hbef j z hh' hz
        · have : j = i := by omega
          subst this
          rw [hget] at hz; cases hz; exact hy
      have stop : itlt y ⟨vid, key⟩ = false → J2 ((i : Int), ()) w3 := fun hy => goJ i hi hbef fun z hz => by rw [hget] at hz; cases hz; exact hy
      rw [Int.toNat_natCast]
      refine onSome_i rfl (ld1_i (k := .slice) s2 h2.c0 ⟨bnd, onSome_i hp (ld1_i (k := .int .i64) y.key hh.2.1 ?_)⟩)
      refine cond_d (fun h' => next (itlt_iff.2 (.inl h'))) (fun h' => ?_)
      refine onSome_i rfl (ld1_i (k := .slice) s2 h2.c0 ⟨bnd, onSome_i hp (ld1_i (k := .int .i64) y.key hh.2.1 ?_)⟩)
      have hnk : ¬ y.key < key := h'
      refine cond_i (fun he => ?_) (fun hne => ?_)
      · have he' : y.key = key := by simpa using he
        refine onSome_i rfl (ld1_i (k := .slice) s2 h2.c0 ⟨bnd, onSome_i hp (ld1_i (k := .int .i64) y.id hh.1 ?_)⟩)
        refine cond_d (fun h'' => next (itlt_iff.2 (.inr ⟨he', h''⟩))) (fun h'' => stop ?_)
        have hnv : ¬ y.id < vid := h''
        have : ¬ itlt y ⟨vid, key⟩ = true := by rw [itlt_iff]; show ¬ (y.key < key ∨ (y.key = key ∧ y.id < vid)); omega
        simpa using this
      · refine stop ?_
        have hne' : y.key ≠ key := by simpa using hne
        have : ¬ itlt y ⟨vid, key⟩ = true := by rw [itlt_iff]; show ¬ (y.key < key ∨ (y.key = key ∧ y.id < vid)); omega
        simpa using this
    · exact goJ i hi hbef fun z hz => by have := (List.getElem?_eq_some_iff.1 hz).1; omega
  have hfl : (q.filter fun y => decide (y.id ≠ vid)).length < 100000 := Nat.lt_of_le_of_lt (List.length_filter_le _ _) hlen
  have hfn : ∀ y ∈ (q.filter fun y => decide (y.id ≠ vid)), y.id ≠ vid := fun y hy => by simpa using (List.mem_filter.1 hy).2
  refine RFind_i h (by omega) (fun hnone => ?_) (fun j y hy hyid => ?_)
  · intro J1 hJ1
    refine cond_d (fun h => by omega) (fun _ => ?_)
    apply hJ1
    intro J2 hJ2
    have hlow : lowQ q vid key = false := by unfold lowQ; rw [hnone]
    have hself : (q.filter fun y => decide (y.id ≠ vid)) = q := List.filter_eq_self.2 fun y hy => by simpa using keyQ_none hnone y hy
    exact core w s q h hlen (keyQ_none hnone) (Mod.refl _ _) (fun k hk => .inl hk) hlow hself.symm J2 fun i w3 e hi hins body => hJ2 ((i : Int), ()) w3 body
  · intro J1 hJ1
    have hj := (List.getElem?_eq_some_iff.1 hy).1
    have hkq : keyQ q vid = some y.key := by rw [← hyid]; exact keyQ_mem h.one (List.mem_of_getElem? hy)
    obtain ⟨p, hp, hh⟩ := rd_it h.rd hy
    refine cond_d (fun _ => ?_) (fun h => absurd (by omega) h)
    rw [Int.toNat_natCast]
    refine onSome_i rfl (ld1_i (k := .slice) s h.c0 ⟨⟨by omega, by omega⟩, onSome_i hp (ld1_i (k := .int .i64) y.key hh.2.1 ?_)⟩)
    refine cond_d (fun hle => ?_) (fun hgt => ?_)
    · have hlow : lowQ q vid key = true := by unfold lowQ; rw [hkq]; simpa using hle
      have hp : (pushQ q vid key) = (q, false) := by unfold pushQ; rw [hlow, if_pos rfl]
      rw [hp] at hQ
      exact hQ w s h (Mod.refl _ _) fun k hk => .inl hk
    · have hgt' : ¬ y.key ≤ key := hgt
      have hlow : lowQ q vid key = false := by unfold lowQ; rw [hkq]; simpa using hgt'
      have hcap := h.rd.cap
      have dD : Keep w w.drew := Mod.drew (Mod.refl _ w)
      have hd := h.keep dD
      rw [w64 (n := (j : Int) + 1) (by omega) (by omega)]
      refine onSome_i rfl (ld1_i (k := .slice) s hd.c0 ⟨⟨by omega, by omega⟩, onSome_i rfl (ld1_i (k := .slice) s hd.c0 ⟨⟨by omega, by omega⟩, ?_⟩)⟩)
      simp only [allocD]
      have kA := dD.tr (Keep.alloc w.drew (.cells #[] 76))
      have vA : Vec (w.drew.alloc (.cells #[] 76)) tKey 2 eIt ⟨some ⟨w.drew.heap.size, 0, none⟩, 0, 0⟩ [] := Vec.lit w.drew tKey eIt lenIt [] #[] rfl (by simp)
      have szd : w.drew.heap.size = w.heap.size := rfl
      generalize w.drew.alloc (.cells #[] 76) = wA at *
      refine ⟨(h.keep kA).c0, (h.keep kA).c0, ?_⟩
      have tl : (q.take j).length ≤ 100000 := by rw [List.length_take]; omega
      have headP := (h.keep kA).rd.part (i := 0) (j := j) (c := s.c) (Nat.zero_le _) (by omega) (by omega) (Nat.le_refl _)
      rw [List.drop_zero, Nat.sub_zero] at headP
      refine append_i elem_sKey lenIt oneIt vA headP (by simp; omega) (by simp; omega) fun s3 w5 v5 m5 f5 _ => ?_
      rw [List.nil_append] at v5
      have k5 : Keep w w5 := kA.fresh m5 fun k ⟨a, ha, e⟩ => by cases ha; subst e; rw [szd]; exact Nat.le_refl _
      have f5' : ∀ a, s3.b = some a → w.heap.size ≤ a.block := fun a ha => by
        rcases f5 with e | ⟨a', e, hle⟩
        · rw [e] at ha; cases ha; rw [szd]; exact Nat.le_refl _
        · rw [e] at ha; cases ha; exact Nat.le_trans kA.size hle
      refine ⟨(h.keep k5).c0, ?_⟩
      have tj : Int.toNat ((j : Int) + 1) = j + 1 := by omega
      rw [tj]
      have tailP := (h.keep k5).rd.part (i := j + 1) (j := s.l) (c := s.c) (by omega) (Nat.le_refl _) hcap (Nat.le_refl _)
      rw [List.take_of_length_le (by rw [List.length_drop]; omega)] at tailP
      have dl : (q.drop (j + 1)).length ≤ 100000 := by rw [List.length_drop]; omega
      refine append_i elem_sKey lenIt oneIt v5 tailP (by omega) (by omega) fun s20 w24 v24 m24 f24 _ => ?_
      have k24 : Keep w w24 := k5.fresh m24 fun k ⟨a, ha, e⟩ => by subst e; exact f5' a ha
      have f24' : ∀ a, s20.b = some a → w.heap.size ≤ a.block := fun a ha => by
        rcases f24 with e | ⟨a', e, hle⟩
        · exact f5' a (e ▸ ha)
        · rw [e] at ha; cases ha; exact Nat.le_trans k5.size hle
      have hfil := take_drop_filter h.one (qsrt_nodup h.srt) hy
      rw [hfil, hyid] at v24
      refine onSome_i rfl ?_
      refine put_key (h.keep k24).head v24 (fun a ha => by have := f24' a ha; omega) (List.Pairwise.filter _ h.srt) (fun x hx z hz e => h.one x (List.mem_filter.1 hx).1 z (List.mem_filter.1 hz).1 e) fun w25 h25 m25 => ?_
      apply hJ1
      intro J2 hJ2
      refine core w25 s20 _ h25 hfl hfn (k24.wk.tr m25) (fun k hk => ?_) hlow rfl J2 fun i w3 e hi hins body => hJ2 ((i : Int), ()) w3 body
      rcases hk with rfl | ⟨a, ha, rfl⟩
      · exact .inl (.inl rfl)
      · exact .inr (f24' a ha)

theorem RPop_none {Q : (Int × Int × Unit) → Bool → World → Prop} (h : RHeapIs w g s []) (hQ : ∀ w', Keep w w' → Q (0, 0, ()) false w') : F_ref4_Heap_Pop (some ⟨g, 0, none⟩) w Q := by
  unfold F_ref4_Heap_Pop
  simp only [allocD]
  have k1 := Keep.alloc w (.cells #[Value.int .i64 0, Value.int .i64 0] 76)
  have o1 : Own (w.alloc (.cells #[Value.int .i64 0, Value.int .i64 0] 76)) w.heap.size tKey (eIt ⟨0, 0⟩) := Own.alloc' w _ _
  generalize w.alloc (.cells #[Value.int .i64 0, Value.int .i64 0] 76) = w1 at *
  have h1 := h.keep k1
  have sl := h.rd.len
  refine onSome_i rfl (ld1_i (k := .slice) s h1.c0 ?_)
  refine cond_i (fun _ => ?_) (fun h => by rw [sl] at h; simp at h)
  refine key_store0 (x := ⟨0, 0⟩) o1 rfl fun w2 o2 m2 => ?_
  exact ldN_i (tupI ⟨0, 0⟩) (own_key o2) (hQ w2 (Mod.fresh k1 m2 fun k e => by rw [show k = w.heap.size from e]; exact Nat.le_refl _))
theorem RPop_i {x : It} {Q : (Int × Int × Unit) → Bool → World → Prop} (h : RHeapIs w g s (x :: q))
    (hQ : ∀ w' s', RHeapIs w' g s' q → (∀ k, hhas g s' k → hhas g s k) → Mod (fun k => k = g) w w' → Q (x.id, x.key, ()) true w') : F_ref4_Heap_Pop (some ⟨g, 0, none⟩) w Q := by
  unfold F_ref4_Heap_Pop
  simp only [allocD]
  have k1 := Keep.alloc w (.cells #[Value.int .i64 0, Value.int .i64 0] 76)
  have o1 : Own (w.alloc (.cells #[Value.int .i64 0, Value.int .i64 0] 76)) w.heap.size tKey (eIt ⟨0, 0⟩) := Own.alloc' w _ _
  have z1 : (w.alloc (.cells #[Value.int .i64 0, Value.int .i64 0] 76)).heap.size = w.heap.size + 1 := by simp
  generalize w.alloc (.cells #[Value.int .i64 0, Value.int .i64 0] 76) = w1 at *
  have h1 := h.keep k1
  have sl : s.l = q.length + 1 := by rw [h.rd.len]; simp
  have hgl := h.head.lt
  refine onSome_i rfl (ld1_i (k := .slice) s h1.c0 ?_)
  refine cond_i (fun h => by rw [sl] at h; simp at h; omega) (fun _ => ?_)
  obtain ⟨p, hp, hh⟩ := rd_it h1.rd (i := 0) rfl
  refine onSome_i rfl (ld1_i (k := .slice) s h1.c0 ⟨⟨by omega, by omega⟩, onSome_i hp (ldN_i (tupI x) hh ?_)⟩)
  have k3 := Keep.alloc w1 (.cells #[Value.int .i64 0, Value.int .i64 0] 76)
  have o3 : Own (w1.alloc (.cells #[Value.int .i64 0, Value.int .i64 0] 76)) w1.heap.size tKey (eIt ⟨0, 0⟩) := Own.alloc' w1 _ _
  generalize w1.alloc (.cells #[Value.int .i64 0, Value.int .i64 0] 76) = w3 at *
  refine key_store0 (x := x) o3 rfl fun w4 o4 m4 => ?_
  have k4 : Keep w w4 := (k1.tr k3).fresh m4 fun k e => by rw [show k = w1.heap.size from e]; omega
  have h4 := h.keep k4
  have o1' : Own w4 w.heap.size tKey (eIt ⟨0, 0⟩) := (o1.mod k3 id).mod m4 (by omega)
  refine onSome_i rfl (ld1_i (k := .slice) s h4.c0 ⟨⟨by omega, by omega⟩, onSome_i rfl ?_⟩)
  have hcap := h.rd.cap
  have part := h4.rd.part (i := 1) (j := s.l) (c := s.c) (by omega) (Nat.le_refl _) hcap (Nat.le_refl _)
  rw [List.take_of_length_le (by rw [List.length_drop]; simp; omega), List.drop_one, List.tail_cons] at part
  rw [addr_lit]
  have t1 : Int.toNat (1 : Int) = 1 := rfl
  rw [t1]
  refine storeD1_i h4.head size_sKey (by simp) rfl rfl fun w5 o5 m5 _ => ?_
  have sb : ∀ a, sliceAddr s.b s.c 1 2 = some a → ∃ a', s.b = some a' ∧ a.block = a'.block := fun a ha => by
    unfold sliceAddr at ha
    split at ha
    · exact ⟨a, ha, rfl⟩
    · cases hsb : s.b with
      | none => rw [hsb] at ha; cases ha
      | some a' => rw [hsb] at ha; simp at ha; subst ha; exact ⟨a', rfl, add_block _ _⟩
  have h5 : RHeapIs w5 g ⟨sliceAddr s.b s.c 1 2, s.l - 1, s.c - 1⟩ q := ⟨o5, part.mod m5 eIt_ne fun a ha => by obtain ⟨a', h1, h2⟩ := sb a ha; rw [h2]; exact (h4.sep a' h1).1,
    fun a ha => by obtain ⟨a', h1, h2⟩ := sb a ha; rw [h2]; exact ⟨(h4.sep a' h1).1, Nat.lt_of_lt_of_le (h4.sep a' h1).2 m5.size⟩, (List.pairwise_cons.1 h.srt).2, fun u hu v hv => h.one u (by simp [hu]) v (by simp [hv])⟩
  refine ldN_i (tupI x) (own_key (o4.mod m5 (by omega))) ?_
  refine key_store0 (x := x) (o1'.mod m5 (by omega)) rfl fun w6 o6 m6 => ?_
  refine ldN_i (tupI x) (own_key o6) ?_
  refine hQ w6 _ (h5.mod m6 fun k hk e => ?_) (fun k hk => ?_) ((k4.wk.tr m5).trans m6 fun k hk e => by rw [show k = w.heap.size from e] at hk; omega)
  · rw [show k = w.heap.size from e] at hk
    rcases hk with e' | ⟨a, ha, e'⟩
    · omega
    · obtain ⟨a', h1, h2⟩ := sb a ha
      have := (h.sep a' h1).2
      omega
  · rcases hk with rfl | ⟨a, ha, rfl⟩
    · exact .inl rfl
    · obtain ⟨a', h1, h2⟩ := sb a ha
      exact .inr ⟨a', h1, h2⟩
end
end Go.Proofs.Ytadacfoiphklgaa
