/-
  The program's search: grow, up, down.
-/
import Derived.Test.YtljiijljeipdhaaGreatFSea
import Derived.Test.YtljiijljeipdhaaGreatA3
import Derived.Test.YtljiijljeipdhaaGreatQ4
import Derived.Test.YtljiijljeipdhaaGreatQ1
import Derived.Test.YtljiijljeipdhaaGreatFDis
import Derived.Test.YtljiijljeipdhaaGreatFEng
import Derived.Test.YtljiijljeipdhaaGreatQ2
namespace Go.Proofs.YtljiijljeipdhaaGreat
open Go Go.Den

theorem Mul_i {n : Nat} (hn : n ≤ 51) {w : World} {Q : Int → Int → World → Prop} (hQ : Q 0 (n : Int) w) : F_math_bits_Mul (IntKind.wrap .u64 (((1 : Nat) : Int))) (IntKind.wrap .u64 (n : Int)) w Q := by
  unfold F_math_bits_Mul
  have key : ∀ k : Fin 60, F_math_bits_Mul64 (IntKind.wrap .u64 (((1 : Nat) : Int))) (IntKind.wrap .u64 ((k.val : Nat) : Int)) w (fun a b w' => a = 0 ∧ b = ((k.val : Nat) : Int) ∧ w' = w) := by
    intro k
    unfold F_math_bits_Mul64
    refine ⟨by decide, by decide, by decide, by decide, by decide, ?_, ?_, rfl⟩ <;> revert k <;> decide +kernel
  have h := key ⟨n, by omega⟩
  unfold F_math_bits_Mul64 at h ⊢
  obtain ⟨_, _, _, _, _, h1, h2, _⟩ := h
  refine ⟨by decide, by decide, by decide, by decide, by decide, ?_⟩
  simp only at h1 h2
  rw [h1, h2]; exact hQ

theorem rep_flat (x : Int) : ∀ n : Nat, (List.replicate n x).flatMap eI = List.replicate n (.int .i64 x)
  | 0 => rfl
  | n + 1 => by rw [List.replicate_succ, List.replicate_succ, List.flatMap_cons, rep_flat x n]; rfl
theorem Repeat_i {w : World} {b n : Nat} {Q : Sl → World → Prop} (h : Own w b tInt [.int .i64 (-1)]) (hn : n ≤ 51) (hQ : ∀ w', Vec w' tInt 1 eI ⟨some ⟨w.heap.size, 0, none⟩, n, n⟩ (List.replicate n (-1)) → Keep w w' → Q ⟨some ⟨w.heap.size, 0, none⟩, n, n⟩ w') :
    F_slices_Repeat_sint_int ⟨some ⟨b, 0, none⟩, 1, 1⟩ (n : Int) w Q := by
  unfold F_slices_Repeat_sint_int
  refine cond_d (fun h => by omega) (fun _ => ?_)
  refine Mul_i hn ?_
  refine cond_d (fun h => by omega) (fun _ => cond_d (fun h => by omega) (fun _ => ?_))
  rw [w64 (n := (n : Int)) (by omega) (by omega)]
  refine make_i elem_sInt (enc := eI) (0 : Int) rfl lenI (by omega) (Int.le_refl _) (by omega) (by omega) fun w2 v2 k2 => ?_
  simp only [Int.toNat_natCast] at v2 ⊢
  have hb := h.lt
  have fin : ∀ w', Own w' w.heap.size tInt (List.replicate n (.int .i64 (-1))) → Keep w w' → Q ⟨some ⟨w.heap.size, 0, none⟩, n, n⟩ w' := fun w' o k => by
    refine hQ w' ⟨by simp, Nat.le_refl _, by simp [maxLen]; omega, .inr ⟨w.heap.size, [], rfl, ?_, by rw [List.append_nil, length_flatMap_enc lenI]; simp⟩⟩ k
    rw [List.append_nil, rep_flat]; exact o
  have o2 : Own w2 w.heap.size tInt (List.replicate n (.int .i64 0)) := by
    rcases v2.own with ⟨h1, _⟩ | ⟨g, rest, hg, ho, hl⟩
    · cases h1
    · cases hg
      rw [rep_flat] at ho hl
      rw [List.length_append, List.length_replicate] at hl
      have hl' : n + rest.length = n * 1 := hl
      have hr : rest = [] := List.eq_nil_of_length_eq_zero (by omega)
      rw [hr, List.append_nil] at ho; exact ho
  have hsrc : ∀ {wx : World}, Keep w wx → ∀ j v, ([.int .i64 (-1)] : List Value)[j]? = some v → wx.cell? ((⟨b, 0, none⟩ : Addr).add j) = some v := fun kx => (h.mod kx id).read fun j v hj => by simpa using hj
  -- what is there once k of them are
  have step : ∀ {w4 : World} {k m : Nat} {cs : List Value} {sa : Addr} {sl sc : Nat} {K : Int → World → Prop}, Own w4 w.heap.size tInt (List.replicate k (.int .i64 (-1)) ++ List.replicate (n - k) (.int .i64 0)) → Keep w w4 → k + m ≤ n → m = min sl (n - k) → cs = List.replicate m (.int .i64 (-1)) →
      (∀ j v, cs[j]? = some v → w4.cell? (sa.add j) = some v) → (∀ w5, Own w5 w.heap.size tInt (List.replicate (k + m) (.int .i64 (-1)) ++ List.replicate (n - (k + m)) (.int .i64 0)) → Keep w w5 → K (m : Int) w5) →
      copyD Tryz.prog tsInt tsInt ⟨some ⟨w.heap.size, k, none⟩, n - k, n - k⟩ (.slice (some sa) sl sc) w4 K := fun {w4 k m cs sa sl sc K} o k4 hkm hm hcs hr hK => by
    subst hcs
    refine copy_own (n := 1) elem_sInt.under size_Int o (by simp; omega) hr (by simp; omega) (fun v hv => by rw [(List.mem_replicate.1 hv).2]; rfl) fun w5 o5 m5 _ => ?_
    rw [← hm]
    refine hK w5 ?_ (k4.fresh m5 fun k e => by rw [show k = _ from e]; exact Nat.le_refl _)
    have e1 : (List.replicate k (Value.int .i64 (-1)) ++ List.replicate (n - k) (Value.int .i64 0)).take k = List.replicate k (.int .i64 (-1)) := by
      rw [List.take_append_of_le_length (by simp), List.take_of_length_le (by simp)]
    have e2 : (List.replicate k (Value.int .i64 (-1)) ++ List.replicate (n - k) (Value.int .i64 0)).drop (k + (List.replicate m (Value.int .i64 (-1))).length) = List.replicate (n - (k + m)) (.int .i64 0) := by
      rw [List.drop_append, List.drop_of_length_le (by simp), List.nil_append, List.drop_replicate]
      simp
      omega
    rw [e1, e2, List.replicate_append_replicate] at o5
    exact o5
  have first := fun (K : Int → World → Prop) => step (K := K) (w4 := w2) (k := 0) (m := min 1 n) (cs := List.replicate (min 1 n) (.int .i64 (-1))) (sa := ⟨b, 0, none⟩) (sl := 1) (sc := 1)
  simp only [List.replicate_zero, List.nil_append, Nat.sub_zero, Nat.zero_add] at first
  refine first _ o2 k2 (by omega) trivial trivial (fun j v hj => ?_) fun w3 o3 k3 => ?_
  · refine hsrc k2 j v ?_
    rw [List.getElem?_replicate] at hj
    split at hj
    · have : j = 0 := by omega
      subst this; simpa using hj
    · cases hj
  refine loop_i (fun c t w4 => ∃ k : Nat, k ≤ n ∧ min 1 n ≤ k ∧ c = n - k ∧ t = ((k : Int), ()) ∧ Own w4 w.heap.size tInt (List.replicate k (.int .i64 (-1)) ++ List.replicate (n - k) (.int .i64 0)) ∧ Keep w w4) (n - min 1 n) ⟨min 1 n, by omega, Nat.le_refl _, rfl, rfl, o3, k3⟩ ?_
  rintro c t w4 ⟨k, hk, hk1, rfl, rfl, o4, k4⟩ X hX
  dsimp only
  refine cond_d (fun hlt => ?_) (fun hge => ?_)
  · have hlt' : k < n := by omega
    refine ⟨⟨by omega, by omega⟩, ⟨by omega, by omega⟩, ?_⟩
    rw [Int.toNat_natCast, sliceAddr_own hlt', sliceAddr_zero, Nat.sub_zero, Nat.sub_zero, Nat.mul_one]
    have d4 : Keep w4 w4.drew := Mod.drew (Mod.refl _ w4)
    have o4d := o4.mod d4 id
    refine step (m := min k (n - k)) o4d (k4.tr d4) (by omega) rfl rfl (o4d.read fun j v hj => ?_) fun w5 o5 k5 => ?_
    · rw [List.getElem?_replicate] at hj
      split at hj
      · rw [Nat.zero_add, List.getElem?_append_left (by simp; omega), List.getElem?_replicate, if_pos (by omega)]; exact hj
      · cases hj
    · rw [w64 (n := (k : Int) + ((min k (n - k) : Nat) : Int)) (by omega) (by omega), show (k : Int) + ((min k (n - k) : Nat) : Int) = ((k + min k (n - k) : Nat) : Int) by omega]
      exact hX (n - (k + min k (n - k))) _ _ (by omega) ⟨k + min k (n - k), by omega, by omega, rfl, rfl, o5, k5⟩
  · have : k = n := by omega
    subst this
    rw [Nat.sub_self, List.replicate_zero, List.append_nil] at o4
    exact fin w4 o4 k4

/-! ### grow -/

structure GSep (W : World) (Z b1 b5 r g1 B : Nat) (s1 s2 : Sl) : Prop where
  s1b : s1.b = some ⟨g1, 0, none⟩
  low : W.heap.size ≤ b1 ∧ W.heap.size ≤ b5 ∧ W.heap.size ≤ r ∧ W.heap.size ≤ g1 ∧ ∀ b, s2.b = some b → W.heap.size ≤ b.block
  high : b1 < Z ∧ b5 < Z ∧ r < Z ∧ g1 < Z ∧ ∀ b, s2.b = some b → b.block < Z
  ne : b1 ≠ b5 ∧ b1 ≠ r ∧ b1 ≠ g1 ∧ b5 ≠ r ∧ b5 ≠ g1 ∧ r ≠ g1
  ne2 : ∀ b, s2.b = some b → b.block ≠ b1 ∧ b.block ≠ b5 ∧ b.block ≠ r ∧ b.block ≠ g1
def SepK (W : World) (b1 b5 r g1 : Nat) (s2 : Sl) (k : Nat) : Prop := W.heap.size ≤ k ∧ k ≠ b1 ∧ k ≠ b5 ∧ k ≠ r ∧ k ≠ g1 ∧ ∀ b, s2.b = some b → k ≠ b.block
theorem GSep.new {W : World} {Z b1 b5 r g1 B : Nat} {s1 s2 : Sl} (h : GSep W Z b1 b5 r g1 B s1 s2) {k : Nat} (hk : Z ≤ k) : SepK W b1 b5 r g1 s2 k := by
  obtain ⟨h1, h2, h3, h4, h5⟩ := h.high
  have := h.low.1
  exact ⟨by omega, by omega, by omega, by omega, by omega, fun b hb e => by have := h5 b hb; omega⟩
structure GSt (W : World) (Z b1 b5 r g1 B : Nat) (s1 s2 : Sl) (w : World) (H : HS) (q : List It) (ds bs : List Int) (kn : Int → Option Int) : Prop where
  hp : HeapAny w H q
  hg : H.g = B
  mp : ∃ nm, MapF w r ekI knI kn nm
  v1 : Vec w tInt 1 eI s1 ds
  v2 : Vec w tInt 1 eI s2 bs
  o1 : Own w b1 tTree [sv ⟨none, 0, 0⟩, sv ⟨none, 0, 0⟩]
  o5 : Own w b5 tTree [sv s1, sv s2]
  kp : Keep W w
  sz : Z ≤ w.heap.size
  sep : ∀ k, H.has k → SepK W b1 b5 r g1 s2 k
section
variable {W : World} {Z b1 b5 r g1 B : Nat} {s1 s2 : Sl} {w : World} {H : HS} {q : List It} {ds bs : List Int} {kn : Int → Option Int}
theorem GSt.keep {w' : World} (h : GSt W Z b1 b5 r g1 B s1 s2 w H q ds bs kn) (k : Keep w w') : GSt W Z b1 b5 r g1 B s1 s2 w' H q ds bs kn :=
  ⟨h.hp.keep k, h.hg, h.mp.imp fun _ m => m.mod k id, h.v1.mod k fun _ _ => id, h.v2.mod k fun _ _ => id, h.o1.mod k id, h.o5.mod k id, h.kp.tr k, Nat.le_trans h.sz k.size, h.sep⟩
/-- Only the heap has changed. -/
theorem GSt.heap {w' : World} {H' : HS} {q' : List It} (S : GSep W Z b1 b5 r g1 B s1 s2) (h : GSt W Z b1 b5 r g1 B s1 s2 w H q ds bs kn) (hp : HeapIs w' H' q') (hg : H'.g = H.g) (m : Mod H.has w w') (f : ∀ k, H'.has k → H.has k ∨ w.heap.size ≤ k) : GSt W Z b1 b5 r g1 B s1 s2 w' H' q' ds bs kn := by
  refine ⟨.inl hp, hg.trans h.hg, h.mp.imp fun _ mm => mm.mod m fun hk => (h.sep r hk).2.2.2.1 rfl, h.v1.mod m fun a ha hk => ?_, h.v2.mod m fun a ha hk => (h.sep _ hk).2.2.2.2.2 a ha rfl, h.o1.mod m fun hk => (h.sep _ hk).2.1 rfl, h.o5.mod m fun hk => (h.sep _ hk).2.2.1 rfl, h.kp.fresh m fun k hk => (h.sep k hk).1, Nat.le_trans h.sz m.size, fun k hk => ?_⟩
  · rw [S.s1b] at ha; cases ha; exact (h.sep _ hk).2.2.2.2.1 rfl
  · rcases f k hk with h1 | h1
    · exact h.sep k h1
    · exact S.new (Nat.le_trans h.sz h1)
/-- Only the map has changed. -/
theorem GSt.map {w' : World} {kn' : Int → Option Int} (S : GSep W Z b1 b5 r g1 B s1 s2) (h : GSt W Z b1 b5 r g1 B s1 s2 w H q ds bs kn) (m : Mod (fun k => k = r) w w') (mp : ∃ nm, MapF w' r ekI knI kn' nm) : GSt W Z b1 b5 r g1 B s1 s2 w' H q ds bs kn' := by
  have ne := S.ne
  refine ⟨h.hp.mod m fun k hk e => (h.sep k hk).2.2.2.1 e, h.hg, mp, h.v1.mod m fun a ha e => ?_, h.v2.mod m fun a ha e => (S.ne2 a ha).2.2.1 e, h.o1.mod m fun e => ?_, h.o5.mod m fun e => ?_, h.kp.fresh m fun k e => ?_, Nat.le_trans h.sz m.size, h.sep⟩
  · rw [S.s1b] at ha; cases ha; exact ne.2.2.2.2.2 (Eq.symm e)
  · exact ne.2.1 e
  · exact ne.2.2.2.1 e
  · rw [show k = r from e]; exact S.low.2.2.1
theorem GSt.cells (h : GSt W Z b1 b5 r g1 B s1 s2 w H q ds bs kn) : w.cell? ((⟨b5, 0, none⟩ : Addr).add 0) = some (sv s1) ∧ w.cell? ((⟨b5, 0, none⟩ : Addr).add 1) = some (sv s2) := by
  refine ⟨?_, ?_⟩ <;> rw [addr_lit, h.o5.cell] <;> rfl
end
theorem tree_store {w : World} {g : Nat} {cs : List Value} {a b : Sl} {K : World → Prop} (h : Own w g tTree cs) (hl : cs.length = 2) (hK : ∀ w', Own w' g tTree [sv a, sv b] → Mod (fun k => k = g) w w' → w'.heap.size = w.heap.size → K w') :
    storeD Tryz.prog tTree ⟨g, 0, none⟩ (Value.agg #[Value.slice a.b a.l a.c, Value.slice b.b b.l b.c]) w K := by
  refine storeD_i h size_Tree (by simp [Value.cells, hl]) (by simp [Value.cells, Value.oneCell']) fun w' ho hm hz => hK w' ?_ hm hz
  have : cs.take 0 ++ (Value.agg #[Value.slice a.b a.l a.c, Value.slice b.b b.l b.c]).cells.toList ++ cs.drop (0 + (Value.agg #[Value.slice a.b a.l a.c, Value.slice b.b b.l b.c]).cells.size) = [sv a, sv b] := by
    simp [Value.cells, List.drop_of_length_le (show cs.length ≤ 2 by omega)]
  rwa [this] at ho
theorem grow_i {HL : LevS} {n : Nat} {A : List Arc} {R : List Int} {from_ : Sl} {fs : List Int} {arcs end_ : Value} {nx : Int → List Arc} {en : Arc → Int} {W : World} {Q : (Sl × Sl × Unit) → World → Prop} (h : LevIs W HL n A R) (hn : n ≤ 51) (hf : Rd W from_ 1 eI fs) (hfl : fs.length ≤ 1000)
    (hN : NxOk n (inSrc n fs) nx en) (hnl : ∀ v, (nx v).length ≤ 100000)
    (harcs : ∀ v w (K : Value → World → Prop), LevIs w HL n A R → (∀ s w', Vec w' tArc 4 eArc s (nx v) → Keep w w' → (∀ b, s.b = some b → w.heap.size ≤ b.block) → K (.slice s.b s.l s.c) w') → callV Tryz.prog arcs [.int .i64 v] w K)
    (hend : ∀ e w (K : Value → World → Prop), (∀ w', Keep w w' → K (.int .i64 (en e)) w') → callV Tryz.prog end_ [arcV e] w K)
    (hQ : ∀ s1 s2 ds bs w', Grown n (inSrc n fs) nx en ds bs → Vec w' tInt 1 eI s1 ds → Vec w' tInt 1 eI s2 bs → Keep W w' → (∀ b, s1.b = some b → W.heap.size ≤ b.block) → (∀ b, s2.b = some b → W.heap.size ≤ b.block) → Q (s1, s2, ()) w') :
    F_search_grow (some ⟨HL.gl, 0, none⟩) from_ arcs end_ W Q := by
  unfold F_search_grow
  refine alloc_i fun w1 o1 k1 z1 => ?_
  refine cond_i (fun h => by simp at h) (fun _ => ?_)
  refine alloc_i fun w3 o3 k3 z3 => ?_
  have K3 := k1.tr k3
  refine onSome_i rfl (ld1_i (k := .ptr) (some ⟨HL.N.g, 0, none⟩) (h.keep K3).c0 (Len_i (h.keep K3).net ?_))
  refine Repeat_i o3 hn fun w5 v5 k5 => ?_
  refine CloneI_i (v5.rd lenI) (by simp; omega) fun s2 w6 v6 k6 f6 => ?_
  have z5 : w3.heap.size < w5.heap.size := v5.lt rfl
  have z6 := k6.size
  refine mapNew_i (ek := ekI) (kn := knI) fun hm k7 => ?_
  have z7 : (w6.alloc (.map #[] 0)).heap.size = w6.heap.size + 1 := by simp
  generalize w6.alloc (.map #[] 0) = w7 at *
  refine alloc_i fun w8 o8 k8 z8 => alloc_i fun w9 o9 k9 z9 => ?_
  refine tree_store (a := ⟨some ⟨w3.heap.size, 0, none⟩, n, n⟩) (b := s2) o9 rfl fun w10 o10 m10 z10 => ?_
  generalize hs1 : (⟨some ⟨w3.heap.size, 0, none⟩, n, n⟩ : Sl) = s1 at *
  have s1b : s1.b = some ⟨w3.heap.size, 0, none⟩ := by rw [← hs1]
  have f6' : ∀ b, s2.b = some b → w5.heap.size ≤ b.block ∧ b.block < w6.heap.size := fun b hb => ⟨f6 b hb, v6.lt hb⟩
  have S : GSep W w10.heap.size W.heap.size w8.heap.size w6.heap.size w3.heap.size w7.heap.size s1 s2 := by
    refine ⟨s1b, ⟨by omega, by omega, by omega, by omega, fun b hb => by have := f6' b hb; omega⟩, ⟨by omega, by omega, by omega, by omega, fun b hb => by have := f6' b hb; omega⟩, ⟨by omega, by omega, by omega, by omega, by omega, by omega⟩, fun b hb => by have := f6' b hb; omega⟩
  have k910 : Keep w8 w10 := k9.fresh m10 fun k e => by rw [show k = _ from e]; exact Nat.le_refl _
  have K10 : Keep w6 w10 := (k7.tr k8).tr k910
  have KW : Keep W w10 := ((K3.tr k5).tr k6).tr K10
  have St0 : GSt W w10.heap.size W.heap.size w8.heap.size w6.heap.size w3.heap.size w7.heap.size s1 s2 w10 ⟨w7.heap.size, w7.heap.size, ⟨none, 0, 0⟩⟩ [] (List.replicate n (-1)) (List.replicate n (-1)) (fun _ => none) := by
    refine ⟨.inr ⟨rfl, rfl, rfl, o8.mod k910 id⟩, rfl, ⟨0, hm.mod (k8.tr k910) id⟩, (v5.mod k6 fun _ _ => id).mod K10 (fun _ _ => id), v6.mod K10 fun _ _ => id, ((((o1.mod k3 id).mod k5 id).mod k6 id).mod K10 id), o10, KW, Nat.le_refl _, fun k hk => ?_⟩
    have : k = w7.heap.size := by
      rcases hk with hk | hk | ⟨a, ha, _⟩
      · exact hk
      · exact hk
      · cases ha
    subst this
    exact ⟨by omega, by omega, by omega, by omega, by omega, fun b hb => by have := f6' b hb; omega⟩
  clear o1 o3 v5 v6 f6 f6' hm o8 o9 o10 m10 k910 K10 k9 k8 k7 k6 k5 k3 K3 k1
  generalize w10.heap.size = Z at *
  obtain ⟨b1, hb1⟩ : ∃ b1, b1 = W.heap.size := ⟨_, rfl⟩
  rw [← hb1] at S St0 ⊢
  generalize w8.heap.size = b5 at *
  generalize w6.heap.size = r at *
  generalize w3.heap.size = g1 at *
  generalize w7.heap.size = B at *
  clear z1 z3 z5 z6 z7 z8 z9 z10 hs1
  -- those to begin with
  refine loop_i (fun c t w11 => ∃ (i : Nat) (H : HS) (q : List It) (kn : Int → Option Int), i ≤ fs.length ∧ c = fs.length - i ∧ t = ((i : Int), ()) ∧ GSt W Z b1 b5 r g1 B s1 s2 w11 H q (List.replicate n (-1)) (List.replicate n (-1)) kn ∧ One q ∧ QSrt q ∧
      (∀ y ∈ q, y.key = 0 ∧ inSrc n fs y.id ∧ kn y.id = some (-1)) ∧ (∀ j, j < i → ∀ v, fs[j]? = some v → 0 ≤ v → v < n → ∃ y ∈ q, y.id = v)) fs.length
    ⟨0, _, [], _, Nat.zero_le _, rfl, rfl, St0, (fun x hx => by cases hx), List.Pairwise.nil, (fun y hy => by cases hy), fun j hj => by omega⟩ ?_
  rintro c t w11 ⟨i, H, q, kn, hi, rfl, rfl, st, hone, hsrt, hq, hall⟩ X hX
  dsimp only
  have qlen : q.length ≤ n := one_len (qsrt_nodup hsrt) hone fun y hy => (hq y hy).2.1.2
  refine cond_d (fun hlt => ?_) (fun hge => ?_)
  · have hfr := hf.len
    have hi' : i < fs.length := by omega
    have hget := List.getElem?_eq_getElem hi'
    have hmem := List.getElem_mem hi'
    generalize fs[i] = v at *
    obtain ⟨p, hp, hc⟩ := rd_cell (k := .int .i64) (e := fun x => x) (hf.mod st.kp eI_ne fun _ _ => id) hget
    rw [Int.toNat_natCast]
    refine ⟨⟨by omega, hlt⟩, onSome_i hp (ld1_i (k := .int .i64) v hc ?_)⟩
    have skip : ¬ (0 ≤ v ∧ v < n) → X (IntKind.wrap .i64 ((i : Int) + 1), ()) w11 := fun hno => by
      rw [wi_ i (by omega)]
      refine hX _ _ _ (by omega) ⟨i + 1, H, q, kn, hi', rfl, rfl, st, hone, hsrt, hq, fun j hj u hu u0 u1 => ?_⟩
      rcases Nat.lt_or_ge j i with hji | hji
      · exact hall j hji u hu u0 u1
      · have : j = i := by omega
        subst this
        rw [hget] at hu; cases hu
        exact absurd ⟨u0, u1⟩ hno
    refine cond_d (fun h0 => ?_) (fun h0 => skip fun h => h0 h.1)
    have h0' : 0 ≤ v := h0
    have hL := h.keep st.kp
    refine onSome_i rfl (ld1_i (k := .ptr) (some ⟨HL.N.g, 0, none⟩) hL.c0 (Len_i hL.net ?_))
    refine cond_d (fun h1 => ?_) (fun h1 => skip fun h => h1 h.2)
    have hg := st.hg
    rw [← hg]
    refine Push_i st.hp (by omega) fun w13 H13 h13 g13 m13 f13 => ?_
    have st13 := st.heap S h13 g13 m13 f13
    obtain ⟨nm, hmp⟩ := st13.mp
    refine update_i (kn := knI) und_mIntInt keyInt hmp v (-1 : Int) fun w14 hm14 m14 _ => ?_
    have st14 := st13.map S m14 ⟨_, hm14⟩
    rw [wi_ i (by omega)]
    refine hX _ _ _ (by omega) ⟨i + 1, H13, _, _, hi', rfl, rfl, st14, push_one hone v 0, push_srt hsrt v 0, fun y hy => ?_, fun j hj u hu u0 u1 => ?_⟩
    · rcases push_mem hy with hyq | rfl
      · obtain ⟨a1, a2, a3⟩ := hq y hyq
        refine ⟨a1, a2, ?_⟩
        show (if y.id = v then some (-1 : Int) else kn y.id) = some (-1)
        split
        · rfl
        · exact a3
      · exact ⟨rfl, ⟨hmem, h0', h1⟩, if_pos rfl⟩
    · rcases Nat.lt_or_ge j i with hji | hji
      · obtain ⟨y, hy, e⟩ := hall j hji u hu u0 u1
        obtain ⟨y', hy', e', _⟩ := push_keep hone (v := v) (k := 0) hy
        exact ⟨y', hy', e'.trans e⟩
      · have : j = i := by omega
        subst this
        rw [hget] at hu; cases hu
        obtain ⟨y, hy, e, _⟩ := push_low (q := q) (v := v) (k := 0)
        exact ⟨y, hy, e⟩
  have hfr := hf.len
  have ei : i = fs.length := by omega
  subst ei
  have G0 : GInv n (inSrc n fs) nx en (fun _ _ => True) (List.replicate n (-1)) (List.replicate n (-1)) q kn := GInv.start hN hq fun v hv => by
    obtain ⟨j, hj⟩ := List.mem_iff_getElem?.1 hv.1
    exact hall j (List.getElem?_eq_some_iff.1 hj).1 v hj hv.2.1 hv.2.2
  clear hX hq hall qlen
  generalize hds0 : List.replicate n (-1 : Int) = ds0 at *
  have S' := S
  -- one after the other
  refine loop_i (fun c t w15 => ∃ (H : HS) (q : List It) (kn : Int → Option Int) (ds bs : List Int), c = n - met ds ∧ t = () ∧ GSt W Z b1 b5 r g1 B s1 s2 w15 H q ds bs kn ∧ One q ∧ QSrt q ∧ GInv n (inSrc n fs) nx en (fun _ _ => True) ds bs q kn) (n - met ds0)
    ⟨H, q, kn, ds0, ds0, rfl, rfl, st, hone, hsrt, G0⟩ ?_
  clear G0 hone hsrt st
  rintro c t w15 ⟨H, q, kn, ds, bs, rfl, rfl, st, hone, hsrt, G⟩ X hX
  have hg := st.hg
  rw [← hg]
  refine Len_h st.hp ?_
  cases q with
  | nil =>
    refine cond_d (fun h => by simp at h) (fun _ => ?_)
    refine ldN_i (l := [.slice, .slice]) (s1, s2, ()) (own_all st.o5) ?_
    refine tree_store (a := s1) (b := s2) st.o1 rfl fun w28 o28 m28 _ => ?_
    refine ldN_i (l := [.slice, .slice]) (s1, s2, ()) (own_all o28) ?_
    refine hQ s1 s2 ds bs w28 (G.done hN) (st.v1.mod m28 fun a ha e => ?_) (st.v2.mod m28 fun a ha e => (S.ne2 a ha).1 e) (st.kp.fresh m28 fun k e => by rw [show k = b1 from e]; exact S.low.1) (fun b hb => ?_) (fun b hb => S.low.2.2.2.2 b hb)
    · rw [S.s1b] at ha; cases ha; exact S.ne.2.2.1 (Eq.symm e)
    · rw [S.s1b] at hb; cases hb; exact S.low.2.2.2.1
  | cons x q =>
    refine cond_d (fun _ => ?_) (fun h => absurd (by simp only [List.length_cons]; omega) h)
    obtain ⟨x0, x1, hxd, hxg, hxb, u, hu, _⟩ := G.qi x (by simp)
    have hxk := (hxg.rng hN).2.2
    have hqlen : (x :: q).length ≤ n := one_len (qsrt_nodup hsrt) hone fun y hy => ⟨(G.qi y hy).1, (G.qi y hy).2.1⟩
    have hp : HeapIs w15 H (x :: q) := st.hp.resolve_right fun h => by cases h.1
    refine Pop_i hp (by simp at hqlen; omega) fun w17 H17 h17 g17 f17 m17 => ?_
    have d17 : Keep w17 w17.drew := Mod.drew (Mod.refl _ w17)
    have st17 := (st.heap S h17 g17 m17 fun k hk => .inl ((f17 k).1 hk)).keep d17
    obtain ⟨G1, hmet⟩ := G.pop hN hsrt hone hu
    have hml := met_le (ds.set x.id.toNat x.key)
    rw [List.length_set, G.dl] at hml
    refine ld1_i (k := .slice) s1 st17.cells.1 (ld1_i (k := .slice) s2 st17.cells.2 ?_)
    obtain ⟨nm, hmp⟩ := st17.mp
    refine lookup1_i (kn := knI) und_mIntInt keyInt (z := (0 : Int)) zero_int hmp x.id ?_
    rw [hu]
    show _ ∧ _
    have v1l := st17.v1.len
    have v2l := st17.v2.len
    have hdl := G.dl
    have hbl := G.bl
    refine ⟨st17.cells.2, st17.cells.1, ⟨x0, by omega⟩, onSome_i S.s1b ?_⟩
    refine st17.v1.store lenI S.s1b (i := x.id.toNat) (by omega) x.key (v := .int .i64 x.key) rfl size_Int (oneI _) fun w19 v19 m19 z19 => ?_
    have m19' : Mod (fun k => k = g1) w17.drew w19 := m19
    have st19 : GSt W Z b1 b5 r g1 B s1 s2 w19 H17 q (ds.set x.id.toNat x.key) bs kn := by
      refine ⟨st17.hp.mod m19' fun k hk e => (st17.sep k hk).2.2.2.2.1 e, st17.hg, st17.mp.imp fun _ mm => mm.mod m19' fun e => S.ne.2.2.2.2.2 e, v19, st17.v2.mod m19' fun a ha e => (S.ne2 a ha).2.2.2 e, st17.o1.mod m19' fun e => S.ne.2.2.1 e, st17.o5.mod m19' fun e => S.ne.2.2.2.2.1 e, st17.kp.fresh m19' fun k e => by rw [show k = g1 from e]; exact S.low.2.2.2.1, by rw [z19]; exact st17.sz, st17.sep⟩
    obtain ⟨g2, hg2⟩ : ∃ g2, s2.b = some ⟨g2, 0, none⟩ := by
      rcases st19.v2.own with ⟨_, h2⟩ | ⟨g, _, hb, _⟩
      · have := st19.v2.cap; omega
      · exact ⟨g, hb⟩
    refine ⟨st19.cells.2, ⟨x0, by omega⟩, onSome_i hg2 ?_⟩
    refine st19.v2.store lenI hg2 (i := x.id.toNat) (by omega) u (v := .int .i64 u) rfl size_Int (oneI _) fun w20 v20 m20 z20 => ?_
    have m20' : Mod (fun k => k = g2) w19 w20 := m20
    have n2 := S.ne2 _ hg2
    have st20 : GSt W Z b1 b5 r g1 B s1 s2 w20 H17 q (ds.set x.id.toNat x.key) (bs.set x.id.toNat u) kn := by
      refine ⟨st19.hp.mod m20' fun k hk e => (st19.sep k hk).2.2.2.2.2 _ hg2 e, st19.hg, st19.mp.imp fun _ mm => mm.mod m20' fun e => n2.2.2.1 e.symm, st19.v1.mod m20' fun a ha e => ?_, v20, st19.o1.mod m20' fun e => n2.1 e.symm, st19.o5.mod m20' fun e => n2.2.1 e.symm, st19.kp.fresh m20' fun k e => by rw [show k = g2 from e]; exact S.low.2.2.2.2 _ hg2, by rw [z20]; exact st19.sz, st19.sep⟩
      rw [S.s1b] at ha; cases ha; exact n2.2.2.2 (Eq.symm e)
    have hdlt : x.id.toNat < ds.length := by omega
    have hself : (ds.set x.id.toNat x.key)[x.id.toNat]? = some x.key := by rw [List.getElem?_set, if_pos rfl, if_pos hdlt]
    have exi : ((x.id.toNat : Nat) : Int) = x.id := Int.toNat_of_nonneg x0
    have hone' : One q := fun a ha b hb => hone a (by simp [ha]) b (by simp [hb])
    have hsrt' : QSrt q := (List.pairwise_cons.1 hsrt).2
    generalize hds' : ds.set x.id.toNat x.key = ds' at *
    generalize bs.set x.id.toNat u = bs' at *
    refine harcs x.id w20 _ (h.keep st20.kp) fun s5 w21 v21 k21 f21 => ⟨s5, rfl, ?_⟩
    have st21 := st20.keep k21
    have l5 := v21.len
    have hxl := hnl x.id
    have fr5 : ∀ b, s5.b = some b → w20.heap.size ≤ b.block ∧ b.block < w21.heap.size := fun b hb => ⟨f21 b hb, v21.lt hb⟩
    refine loop_i (fun c t w22 => ∃ (i : Nat) (H : HS) (q : List It) (kn : Int → Option Int), i ≤ (nx x.id).length ∧ c = (nx x.id).length - i ∧ t = ((i : Int), ()) ∧ GSt W Z b1 b5 r g1 B s1 s2 w22 H q ds' bs' kn ∧ One q ∧ QSrt q ∧
        GInv n (inSrc n fs) nx en (fun v e => v ≠ x.id ∨ e ∈ (nx x.id).take i) ds' bs' q kn ∧ Vec w22 tArc 4 eArc s5 (nx x.id) ∧ (∀ k, H.has k → ∀ b, s5.b = some b → k ≠ b.block) ∧ w21.heap.size ≤ w22.heap.size) (nx x.id).length
      ⟨0, H17, q, kn, Nat.zero_le _, rfl, rfl, st21, hone', hsrt', G1.mono (fun v e _ hh => hh.resolve_right (by simp)), v21, fun k hk b hb e => by have := (fr5 b hb).1; have := st20.hp.lt hk; omega, Nat.le_refl _⟩ ?_
    rintro c t w22 ⟨i, H2, q2, kn2, hi, rfl, rfl, st2, hone2, hsrt2, G2, v22, sp2, z22⟩ Y hY
    dsimp only
    have hq2len : q2.length ≤ n := one_len (qsrt_nodup hsrt2) hone2 fun y hy => ⟨(G2.qi y hy).1, (G2.qi y hy).2.1⟩
    refine cond_d (fun hlt => ?_) (fun hge => ?_)
    · have hi' : i < (nx x.id).length := by omega
      have hget := List.getElem?_eq_getElem hi'
      have hmem := List.getElem_mem hi'
      have htk : (nx x.id).take (i + 1) = (nx x.id).take i ++ [(nx x.id)[i]] := List.take_succ_eq_append_getElem hi'
      generalize (nx x.id)[i] = e at *
      obtain ⟨e0, e1, ew0, ew1⟩ := hN.arc x.id e hmem
      obtain ⟨p, hp, hh⟩ := rd_tup (v22.rd lenA) hget
      rw [Int.toNat_natCast]
      refine ⟨⟨by omega, hlt⟩, onSome_i hp (ldN_i (tupA e) hh ?_)⟩
      refine arc_copy (x := e) fun w24 k24 o24 _ => ?_
      refine ldN_i (tupA e) (own_all o24) ?_
      refine hend e w24 _ fun w25 k25 => ⟨en e, rfl, ?_⟩
      have k225 := k24.tr k25
      have st25 := st2.keep k225
      have o25 := o24.mod k25 id
      have v25 := v22.mod k225 fun _ _ => id
      have hdl' := G2.dl
      obtain ⟨y, hy⟩ : ∃ y, ds'[(en e).toNat]? = some y := ⟨_, List.getElem?_eq_getElem (show (en e).toNat < ds'.length by omega)⟩
      obtain ⟨pa, hpa, hca⟩ := rd_cell (k := .int .i64) (e := fun x => x) (st25.v1.rd lenI) hy
      have v1l' := st25.v1.len
      have tko : ∀ v' e', e' ∈ nx v' → (v' ≠ x.id ∨ e' ∈ (nx x.id).take (i + 1)) → ((v' ≠ x.id ∨ e' ∈ (nx x.id).take i) ∨ (v' = x.id ∧ e' = e)) := fun v' e' _ hh => by
        rcases hh with h1 | h1
        · exact .inl (.inl h1)
        · rw [htk] at h1
          rcases List.mem_append.1 h1 with h2 | h2
          · exact .inl (.inr h2)
          · by_cases hv : v' = x.id
            · exact .inr ⟨hv, by simpa using h2⟩
            · exact .inl (.inl hv)
      have z25 := k225.size
      refine ld1_i (k := .slice) s1 st25.cells.1 ⟨⟨e0, by omega⟩, onSome_i hpa (ld1_i (k := .int .i64) y hca ?_)⟩
      refine cond_d (fun hneg => ?_) (fun hpos => ?_)
      · have hy1 : y = -1 := by
          rcases G2.setl _ _ hy with h1 | ⟨h1, _⟩
          · exact h1
          · have hneg' : y < 0 := hneg
            omega
        subst hy1
        have hkey : x.key + BW ≤ met ds' * BW := by
          rcases G2.setl _ _ hself with h1 | ⟨_, _, _, h1, _⟩
          · omega
          · exact h1
        have hwr : IntKind.wrap .i64 (x.key + e.w) = x.key + e.w := w64 (by simp only [BW] at *; omega) (by simp only [BW] at *; omega)
        refine ld1_i (k := .int .i64) e.w (own_arc o25).2.2.1 ?_
        rw [hwr]
        have hg2' := st25.hg
        rw [hg, ← hg2']
        refine Push_i st25.hp (by omega) fun w26 H26 h26 g26 m26 f26 => ?_
        have st26 := st25.heap S h26 g26 m26 f26
        have G3 := (G2.push hN hone2 (v := x.id.toNat) (d := x.key) (e := e) hself hxk (by rw [exi]; exact hmem) hy)
        rw [exi] at G3
        have G4 := G3.mono (ok' := fun v e => v ≠ x.id ∨ e ∈ (nx x.id).take (i + 1)) tko
        have sp26 : ∀ k, H26.has k → ∀ b, s5.b = some b → k ≠ b.block := fun k hk b hb e => by
          rcases f26 k hk with h1 | h1
          · exact sp2 k h1 b hb e
          · have := (fr5 b hb).2; omega
        have v26 := v25.mod m26 fun b hb hk => sp2 _ hk b hb rfl
        have z26 := m26.size
        rw [wi_ i (by omega)]
        have hflag : ∀ b, (pushQ q2 (en e) (x.key + e.w)).2 = b → GInv n (inSrc n fs) nx en (fun v e => v ≠ x.id ∨ e ∈ (nx x.id).take (i + 1)) ds' bs' (pushQ q2 (en e) (x.key + e.w)).1 (knP kn2 b (en e) x.id) := fun b hb => by rw [← hb]; exact G4
        refine cond_i (fun hb => ?_) (fun hb => ?_)
        · obtain ⟨nm2, hmp2⟩ := st26.mp
          refine update_i (kn := knI) und_mIntInt keyInt hmp2 (en e) x.id fun w27 hm27 m27 z27 => ?_
          have st27 := st26.map S m27 ⟨_, hm27⟩
          refine hY _ _ _ (by omega) ⟨i + 1, H26, _, _, hi', rfl, rfl, st27, push_one hone2 _ _, push_srt hsrt2 _ _, hflag true hb, v26.mod m27 fun b hb' e => ?_, sp26, by omega⟩
          have e' : b.block = r := e
          have := (fr5 b hb').1
          have h1 := S.high.2.2.1
          have h2 := st20.sz
          omega
        · exact hY _ _ _ (by omega) ⟨i + 1, H26, _, kn2, hi', rfl, rfl, st26, push_one hone2 _ _, push_srt hsrt2 _ _, hflag false hb, v26, sp26, by omega⟩
      · have hpos' : 0 ≤ y := by have : ¬ y < 0 := hpos; omega
        rw [wi_ i (by omega)]
        exact hY _ _ _ (by omega) ⟨i + 1, H2, q2, kn2, hi', rfl, rfl, st25, hone2, hsrt2, (G2.skip (v := x.id) (e := e) hy hpos').mono tko, v25, sp2, by omega⟩
    · have ei : i = (nx x.id).length := by omega
      subst ei
      rw [List.take_length] at G2
      refine hX (n - met ds') _ _ (by omega) ⟨H2, q2, kn2, ds', bs', rfl, rfl, st2, hone2, hsrt2, G2.mono fun v e he _ => ?_⟩
      by_cases hv : v = x.id
      · exact .inr (hv ▸ he)
      · exact .inl hv
end Go.Proofs.YtljiijljeipdhaaGreat

/-
  The program's distances to a node: the least first.
-/
namespace Go.Proofs.YtljiijljeipdhaaGreat
open Go Go.Den

theorem weight_i {w : World} {t : TurS} {G : Gr} {i : Int} {Q : Int → World → Prop} (h : TurIs w t G) (hi : G.isE i) (hQ : ∀ w', Keep w w' → Q (G.wt i) w') : F_dist_weight (some ⟨t.t, 0, none⟩) i w Q := by
  unfold F_dist_weight
  refine onSome_i rfl (ld1_i (k := .ptr) (some ⟨t.H.g, 0, none⟩) h.cells.1 ?_)
  exact weightAt_i h hi fun a w' hc k _ => ld1_i (k := .int .i64) (G.wt i) hc (hQ w' k)
theorem eB_ne (b : Bool) : eB b ≠ [] := by simp
theorem shutB_ge {c : List Bool} {e : Int} (h : (c.length : Int) ≤ e) : shutB c e = false := by
  unfold shutB
  rw [List.getD_eq_getElem?_getD, List.getElem?_eq_none (by omega)]; rfl
theorem shutB_get {c : List Bool} {e : Int} (h0 : 0 ≤ e) (h : e < c.length) : c[e.toNat]? = some (shutB c e) := by
  have : e.toNat < c.length := by omega
  unfold shutB
  rw [List.getD_eq_getElem?_getD, List.getElem?_eq_getElem this]; rfl
theorem shut_i {w : World} {s : Sl} {c : List Bool} {e : Int} {Q : Bool → World → Prop} (hr : Rd w s 1 eB c) (h0 : 0 ≤ e) (hQ : Q (shutB c e) w) : F_dist_shut s e w Q := by
  unfold F_dist_shut
  have hl := hr.len
  refine cond_d (fun hlt => ?_) (fun hge => by rw [shutB_ge (by omega)] at hQ; exact hQ)
  obtain ⟨p, hp, hc⟩ := rd_cell (k := .bool) (e := fun x => x) hr (shutB_get h0 (by omega))
  exact ⟨⟨h0, hlt⟩, onSome_i hp (ld1_i (k := .bool) (shutB c e) hc hQ)⟩

structure DSt (W w : World) (B g1 : Nat) (s1 : Sl) (H : HS) (q : List It) (ds : List Int) : Prop where
  hp : HeapAny w H q
  hg : H.g = B
  s1b : s1.b = some ⟨g1, 0, none⟩
  v1 : Vec w tInt 1 eI s1 ds
  kp : Keep W w
  sep : ∀ k, H.has k → W.heap.size ≤ k ∧ k ≠ g1
  low : W.heap.size ≤ g1
section
variable {W w : World} {B g1 : Nat} {s1 : Sl} {H : HS} {q : List It} {ds : List Int}
theorem DSt.keep {w' : World} (h : DSt W w B g1 s1 H q ds) (k : Keep w w') : DSt W w' B g1 s1 H q ds := ⟨h.hp.keep k, h.hg, h.s1b, h.v1.mod k fun _ _ => id, h.kp.tr k, h.sep, h.low⟩
theorem DSt.heap {w' : World} {H' : HS} {q' : List It} (h : DSt W w B g1 s1 H q ds) (hp : HeapIs w' H' q') (hg : H'.g = H.g) (m : Mod H.has w w') (f : ∀ k, H'.has k → H.has k ∨ w.heap.size ≤ k) : DSt W w' B g1 s1 H' q' ds := by
  have hg1 := h.v1.lt h.s1b
  have hk := h.kp.size
  refine ⟨.inl hp, hg.trans h.hg, h.s1b, h.v1.mod m fun a ha hk => ?_, h.kp.fresh m fun k hk => (h.sep k hk).1, fun k hk' => ?_, h.low⟩
  · rw [h.s1b] at ha; cases ha; exact (h.sep _ hk).2 rfl
  · rcases f k hk' with h1 | h1
    · exact h.sep k h1
    · have hg2 : g1 < w.heap.size := hg1
      exact ⟨by omega, by omega⟩
end

theorem To_i {t : TurS} {G : Gr} {node : Int} {closed : Sl} {c : List Bool} {W : World} {Q : Sl → World → Prop} (h : TurIs W t G) (hN : G.isN node) (hc : Rd W closed 1 eB c)
    (hQ : ∀ s ds w', G.far c node ds → Vec w' tInt 1 eI s ds → Keep W w' → (∀ b, s.b = some b → W.heap.size ≤ b.block) → (∀ (v : Nat) x, ds[v]? = some x → -1 ≤ x ∧ x ≤ 51 * BW) → Q s w') : F_dist_To (some ⟨t.t, 0, none⟩) node closed W Q := by
  unfold F_dist_To
  have ok := h.gra.ok
  have hm := ok.m1
  have hnx := ok.nxOk c node
  refine cond_i (fun h => by simp at h) (fun _ => cond_d (fun h => by omega) (fun _ => ?_))
  refine onSome_i rfl (ld1_i (k := .ptr) (some ⟨t.H.g, 0, none⟩) h.cells.1 (Nodes_i h.gra (cond_d (fun h => by omega) (fun _ => ?_))))
  unfold F_dist_none
  refine alloc_i fun w1 o1 k1 z1 => ?_
  have h1 := h.keep k1
  refine onSome_i rfl (ld1_i (k := .ptr) (some ⟨t.H.g, 0, none⟩) h1.cells.1 (Edges_i h1.gra ?_))
  refine Repeat_i o1 hm.2 fun w3 v3 k3 => ?_
  generalize hs1 : (⟨some ⟨w1.heap.size, 0, none⟩, G.m, G.m⟩ : Sl) = s1 at *
  have s1b : s1.b = some ⟨w1.heap.size, 0, none⟩ := by rw [← hs1]
  refine alloc_i fun w4 o4 k4 z4 => ?_
  have K4 := (k1.tr k3).tr k4
  have h4 := h.keep K4
  refine onSome_i rfl (ld1_i (k := .ptr) (some ⟨t.H.g, 0, none⟩) h4.cells.1 ?_)
  refine gIn_i h4.gra fun s2 w5 v5 k5 f5 => ?_
  have K5 := K4.tr k5
  have z13 := v3.lt s1b
  have zW := k1.size
  have z3 := k3.size
  have hl13 : w1.heap.size < w3.heap.size := z13
  have St0 : DSt W w5 w3.heap.size w1.heap.size s1 ⟨w3.heap.size, w3.heap.size, ⟨none, 0, 0⟩⟩ [] (List.replicate G.m (-1)) := by
    refine ⟨.inr ⟨rfl, rfl, rfl, o4.mod k5 id⟩, rfl, s1b, (v3.mod k4 fun _ _ => id).mod k5 fun _ _ => id, K5, fun k hk => ?_, by omega⟩
    have : k = w3.heap.size := by
      rcases hk with hk | hk | ⟨a, ha, _⟩
      · exact hk
      · exact hk
      · cases ha
    subst this
    exact ⟨by omega, by omega⟩
  have il := G.inN_len node
  have hsrc : ∀ e, e ∈ G.inN node ↔ G.src node e := fun e => G.mem_inN
  have l2 := v5.len
  have f5' : ∀ b, s2.b = some b → w4.heap.size ≤ b.block ∧ b.block < w5.heap.size := fun b hb => ⟨f5 b hb, v5.lt hb⟩
  clear o1 v3 o4 f5
  generalize hB : w3.heap.size = B at *
  generalize hg1 : w1.heap.size = g1 at *
  -- those to begin with
  refine loop_i (fun c' t' w6 => ∃ (i : Nat) (H : HS) (q : List It), i ≤ (G.inN node).length ∧ c' = (G.inN node).length - i ∧ t' = ((i : Int), ()) ∧ DSt W w6 B g1 s1 H q (List.replicate G.m (-1)) ∧ One q ∧ QSrt q ∧ Vec w6 tInt 1 eI s2 (G.inN node) ∧ (∀ k, H.has k → ∀ b, s2.b = some b → k ≠ b.block) ∧
      (∀ y ∈ q, y.key = 0 ∧ G.src node y.id) ∧ (∀ j, j < i → ∀ v, (G.inN node)[j]? = some v → ∃ y ∈ q, y.id = v)) (G.inN node).length
    ⟨0, _, [], Nat.zero_le _, rfl, rfl, St0, (fun x hx => by cases hx), List.Pairwise.nil, v5, fun k hk b hb e => ?_, (fun y hy => by cases hy), fun j hj => by omega⟩ ?_
  · have hkb : k = B := by
      rcases hk with hk | hk | ⟨a, ha, _⟩
      · exact hk
      · exact hk
      · cases ha
    have := f5' b hb
    omega
  rintro c' t' w6 ⟨i, H, q, hi, rfl, rfl, st, hone, hsrt, v6, hs2, hq, hall⟩ X hX
  dsimp only
  have qlen : q.length ≤ G.m := one_len (qsrt_nodup hsrt) hone fun y hy => (hq y hy).2.1
  refine cond_d (fun hlt => ?_) (fun hge => ?_)
  · have hi' : i < (G.inN node).length := by omega
    have hget := List.getElem?_eq_getElem hi'
    have hmem := List.getElem_mem hi'
    generalize (G.inN node)[i] = v at *
    obtain ⟨p, hp, hcp⟩ := rd_cell (k := .int .i64) (e := fun x => x) (v6.rd lenI) hget
    rw [Int.toNat_natCast]
    refine ⟨⟨by omega, hlt⟩, onSome_i hp (ld1_i (k := .int .i64) v hcp ?_)⟩
    have hg := st.hg
    rw [← hg]
    refine Push_i st.hp (by omega) fun w7 H7 h7 g7 m7 f7 => ?_
    have st7 := st.heap h7 g7 m7 f7
    rw [wi_ i (by omega)]
    refine hX _ _ _ (by omega) ⟨i + 1, H7, _, hi', rfl, rfl, st7, push_one hone v 0, push_srt hsrt v 0, v6.mod m7 fun b hb hk => hs2 _ hk b hb rfl, fun k hk b hb e => ?_, fun y hy => ?_, fun j hj u hu => ?_⟩
    · rcases f7 k hk with h1 | h1
      · exact hs2 k h1 b hb e
      · have := v6.lt hb; omega
    · rcases push_mem hy with hyq | rfl
      · exact hq y hyq
      · exact ⟨rfl, (hsrc v).1 hmem⟩
    · rcases Nat.lt_or_ge j i with hji | hji
      · obtain ⟨y, hy, e⟩ := hall j hji u hu
        obtain ⟨y', hy', e', _⟩ := push_keep hone (v := v) (k := 0) hy
        exact ⟨y', hy', e'.trans e⟩
      · have : j = i := by omega
        subst this
        rw [hget] at hu; cases hu
        obtain ⟨y, hy, e, _⟩ := push_low (q := q) (v := v) (k := 0)
        exact ⟨y, hy, e⟩
  have ei : i = (G.inN node).length := by omega
  subst ei
  have G0 : GInv G.m (G.src node) (G.nx c) (fun e => e.f) (fun _ _ => True) (List.replicate G.m (-1)) (List.replicate G.m (-1)) q (fun _ => some (-1)) := GInv.start hnx (fun y hy => ⟨(hq y hy).1, (hq y hy).2, rfl⟩) fun v hv => by
    obtain ⟨j, hj⟩ := List.mem_iff_getElem?.1 ((hsrc v).2 hv)
    exact hall j (List.getElem?_eq_some_iff.1 hj).1 v hj
  clear hX hq hall qlen hge hi St0 v6 hs2 f5' v5 l2
  generalize hds0 : List.replicate G.m (-1 : Int) = ds0 at *
  -- one after the other
  refine loop_i (fun c' t' w15 => ∃ (H : HS) (q : List It) (kn : Int → Option Int) (ds bs : List Int), c' = G.m - met ds ∧ t' = () ∧ DSt W w15 B g1 s1 H q ds ∧ One q ∧ QSrt q ∧ GInv G.m (G.src node) (G.nx c) (fun e => e.f) (fun _ _ => True) ds bs q kn) (G.m - met ds0)
    ⟨H, q, _, ds0, ds0, rfl, rfl, st, hone, hsrt, G0⟩ ?_
  clear G0 hone hsrt st
  rintro c' t' w15 ⟨H, q, kn, ds, bs, rfl, rfl, st, hone, hsrt, GI⟩ X hX
  have hg := st.hg
  rw [← hg]
  refine Len_h st.hp ?_
  cases q with
  | nil =>
    refine cond_d (fun h => by simp at h) (fun _ => ?_)
    have gr := GI.done hnx
    refine hQ s1 ds w15 gr.far st.v1 st.kp (fun b hb => ?_) fun v x hx => ?_
    · rw [st.s1b] at hb; cases hb; exact st.low
    · have := gr.bnd v x hx
      simp only [BW] at *; omega
  | cons x q =>
    refine cond_d (fun _ => ?_) (fun h => absurd (by simp only [List.length_cons]; omega) h)
    obtain ⟨x0, x1, hxd, hxg, hxb, u, hu, _⟩ := GI.qi x (by simp)
    have hxE : G.isE x.id := ⟨x0, x1⟩
    have hxk := (hxg.rng hnx).2.2
    have hqlen : (x :: q).length ≤ G.m := one_len (qsrt_nodup hsrt) hone fun y hy => ⟨(GI.qi y hy).1, (GI.qi y hy).2.1⟩
    have hp : HeapIs w15 H (x :: q) := st.hp.resolve_right fun h => by cases h.1
    refine Pop_i hp (by simp at hqlen; omega) fun w17 H17 h17 g17 f17 m17 => ?_
    have st17 := st.heap h17 g17 m17 fun k hk => .inl ((f17 k).1 hk)
    obtain ⟨G1, hmet⟩ := GI.pop hnx hsrt hone hu
    have hml := met_le (ds.set x.id.toNat x.key)
    rw [List.length_set, GI.dl] at hml
    have v1l := st17.v1.len
    have hdl := GI.dl
    refine ⟨⟨x0, by omega⟩, onSome_i st17.s1b ?_⟩
    refine st17.v1.store lenI st17.s1b (i := x.id.toNat) (by omega) x.key (v := .int .i64 x.key) rfl size_Int (oneI _) fun w19 v19 m19 z19 => ?_
    have m19' : Mod (fun k => k = g1) w17 w19 := m19
    have st19 : DSt W w19 B g1 s1 H17 q (ds.set x.id.toNat x.key) := ⟨st17.hp.mod m19' fun k hk e => (st17.sep k hk).2 e, st17.hg, st17.s1b, v19, st17.kp.fresh m19' fun k e => by rw [show k = g1 from e]; exact st17.low, st17.sep, st17.low⟩
    have hdlt : x.id.toNat < ds.length := by omega
    have hself : (ds.set x.id.toNat x.key)[x.id.toNat]? = some x.key := by rw [List.getElem?_set, if_pos rfl, if_pos hdlt]
    have exi : ((x.id.toNat : Nat) : Int) = x.id := Int.toNat_of_nonneg x0
    have hone' : One q := fun a ha b hb => hone a (by simp [ha]) b (by simp [hb])
    have hsrt' : QSrt q := (List.pairwise_cons.1 hsrt).2
    generalize hds' : ds.set x.id.toNat x.key = ds' at *
    generalize bs.set x.id.toNat u = bs' at *
    refine shut_i (hc.mod st19.kp eB_ne fun _ _ => id) x0 ?_
    refine cond_i (fun hsh => ?_) (fun hsh => ?_)
    · refine hX (G.m - met ds') _ _ (by omega) ⟨H17, q, kn, ds', bs', rfl, rfl, st19, hone', hsrt', G1.mono fun v e he _ ev => ?_⟩
      rw [ev] at he
      have := (G.mem_nx.1 he).1
      rw [hsh] at this; cases this
    refine Prev_i (h.keep st19.kp) fun s3 w21 v21 k21 f21 => ?_
    have st21 := st19.keep k21
    have l3 := v21.len
    have hpl := G.prev_len x.id
    have hnxe : G.nx c x.id = (G.prevL x.id).map fun a => (⟨a, x.id, G.wt x.id, -1⟩ : Arc) := by unfold Gr.nx; rw [if_neg (by rw [hsh]; simp)]
    have hpE : ∀ p ∈ G.prevL x.id, G.isE p := fun p hp => (G.turn_iff.1 (G.mem_prev.1 hp)).1
    have hpN : ∀ p ∈ G.prevL x.id, (⟨p, x.id, G.wt x.id, -1⟩ : Arc) ∈ G.nx c x.id := fun p hp => by rw [hnxe]; exact List.mem_map.2 ⟨p, hp, rfl⟩
    have hw1 := ok.w1 hxE
    have fr3 : ∀ b, s3.b = some b → w19.heap.size ≤ b.block ∧ b.block < w21.heap.size := fun b hb => ⟨f21 b hb, v21.lt hb⟩
    refine loop_i (fun c' t' w22 => ∃ (i : Nat) (H : HS) (q : List It) (kn : Int → Option Int), i ≤ (G.prevL x.id).length ∧ c' = (G.prevL x.id).length - i ∧ t' = ((i : Int), ()) ∧ DSt W w22 B g1 s1 H q ds' ∧ One q ∧ QSrt q ∧
        GInv G.m (G.src node) (G.nx c) (fun e => e.f) (fun v e => v ≠ x.id ∨ e.f ∈ (G.prevL x.id).take i) ds' bs' q kn ∧ Vec w22 tInt 1 eI s3 (G.prevL x.id) ∧ (∀ k, H.has k → ∀ b, s3.b = some b → k ≠ b.block)) (G.prevL x.id).length
      ⟨0, H17, q, kn, Nat.zero_le _, rfl, rfl, st21, hone', hsrt', G1.mono (fun v e _ hh => hh.resolve_right (by simp)), v21, fun k hk b hb e => by have := (fr3 b hb).1; have := st19.hp.lt hk; omega⟩ ?_
    rintro c' t' w22 ⟨i, H2, q2, kn2, hi, rfl, rfl, st2, hone2, hsrt2, G2, v22, sp2⟩ Y hY
    dsimp only
    have hq2len : q2.length ≤ G.m := one_len (qsrt_nodup hsrt2) hone2 fun y hy => ⟨(G2.qi y hy).1, (G2.qi y hy).2.1⟩
    refine cond_d (fun hlt => ?_) (fun hge => ?_)
    · have hi' : i < (G.prevL x.id).length := by omega
      have hget := List.getElem?_eq_getElem hi'
      have hmem := List.getElem_mem hi'
      have htk : (G.prevL x.id).take (i + 1) = (G.prevL x.id).take i ++ [(G.prevL x.id)[i]] := List.take_succ_eq_append_getElem hi'
      generalize (G.prevL x.id)[i] = p at *
      have hp0 := hpE p hmem
      have hpn := hpN p hmem
      obtain ⟨pa, hpa, hca⟩ := rd_cell (k := .int .i64) (e := fun x => x) (v22.rd lenI) hget
      have hdl' := G2.dl
      obtain ⟨y, hy⟩ : ∃ y, ds'[p.toNat]? = some y := ⟨_, List.getElem?_eq_getElem (show p.toNat < ds'.length by have := hp0.2; omega)⟩
      obtain ⟨pb, hpb, hcb⟩ := rd_cell (k := .int .i64) (e := fun x => x) (st2.v1.rd lenI) hy
      have v1l' := st2.v1.len
      rw [Int.toNat_natCast]
      refine ⟨⟨by omega, hlt⟩, onSome_i hpa (ld1_i (k := .int .i64) p hca ⟨⟨hp0.1, by have := hp0.2; omega⟩, onSome_i hpb (ld1_i (k := .int .i64) y hcb ?_)⟩)⟩
      have tko : ∀ v' (e' : Arc), e' ∈ G.nx c v' → (v' ≠ x.id ∨ e'.f ∈ (G.prevL x.id).take (i + 1)) → ((v' ≠ x.id ∨ e'.f ∈ (G.prevL x.id).take i) ∨ (v' = x.id ∧ e' = ⟨p, x.id, G.wt x.id, -1⟩)) := fun v' e' he' hh => by
        by_cases hv : v' = x.id
        · rcases hh with h1 | h1
          · exact absurd hv h1
          · rw [htk] at h1
            rcases List.mem_append.1 h1 with h2 | h2
            · exact .inl (.inr h2)
            · refine .inr ⟨hv, ?_⟩
              have h3 : e'.f = p := by simpa using h2
              rw [hv] at he'
              obtain ⟨_, _, h4⟩ := G.mem_nx.1 he'
              rw [h4, h3]
        · exact .inl (.inl hv)
      refine cond_d (fun hneg => ?_) (fun hpos => ?_)
      · have hy1 : y = -1 := by
          rcases G2.setl _ _ hy with h1 | ⟨h1, _⟩
          · exact h1
          · have hneg' : y < 0 := hneg
            omega
        subst hy1
        have hkey : x.key + BW ≤ met ds' * BW := by
          rcases G2.setl _ _ hself with h1 | ⟨_, _, _, h1, _⟩
          · omega
          · exact h1
        have hwr : IntKind.wrap .i64 (x.key + G.wt x.id) = x.key + G.wt x.id := w64 (by simp only [BW] at *; omega) (by simp only [BW] at *; omega)
        refine weight_i (h.keep st2.kp) hxE fun w23 k23 => ?_
        have st23 := st2.keep k23
        rw [hwr]
        have hg2' := st23.hg
        rw [hg, ← hg2']
        refine Push_i st23.hp (by omega) fun w26 H26 h26 g26 m26 f26 => ?_
        have st26 := st23.heap h26 g26 m26 f26
        have G3 := (G2.push hnx hone2 (v := x.id.toNat) (d := x.key) (e := ⟨p, x.id, G.wt x.id, -1⟩) hself hxk (by rw [exi]; exact hpn) hy)
        rw [exi] at G3
        rw [wi_ i (by omega)]
        refine hY _ _ _ (by omega) ⟨i + 1, H26, _, _, hi', rfl, rfl, st26, push_one hone2 _ _, push_srt hsrt2 _ _, G3.mono tko, (v22.mod k23 fun _ _ => id).mod m26 fun b hb hk => sp2 _ hk b hb rfl, fun k hk b hb e => ?_⟩
        rcases f26 k hk with h1 | h1
        · exact sp2 k h1 b hb e
        · have := v22.lt hb; have := k23.size; omega
      · have hpos' : 0 ≤ y := by have : ¬ y < 0 := hpos; omega
        rw [wi_ i (by omega)]
        exact hY _ _ _ (by omega) ⟨i + 1, H2, q2, kn2, hi', rfl, rfl, st2, hone2, hsrt2, (G2.skip (v := x.id) (e := ⟨p, x.id, G.wt x.id, -1⟩) hy hpos').mono tko, v22, sp2⟩
    · have ei : i = (G.prevL x.id).length := by omega
      subst ei
      rw [List.take_length] at G2
      refine hX (G.m - met ds') _ _ (by omega) ⟨H2, q2, kn2, ds', bs', rfl, rfl, st2, hone2, hsrt2, G2.mono fun v e he _ => ?_⟩
      by_cases hv : v = x.id
      · rw [hv] at he
        exact .inr (G.mem_prev.2 (G.mem_nx.1 he).2.1)
      · exact .inl hv
end Go.Proofs.YtljiijljeipdhaaGreat

/-
  The program's way along distances.
-/
namespace Go.Proofs.YtljiijljeipdhaaGreat
open Go Go.Den

theorem find_at {p : Int → Bool} {x : Int} : ∀ {l : List Int} {i : Nat}, (∀ y ∈ l.take i, p y = false) → l[i]? = some x → p x = true → l.find? p = some x
  | [], i, _, h, _ => by simp at h
  | y :: l, 0, _, h, hp => by simp at h; subst h; rw [List.find?_cons, hp]
  | y :: l, i + 1, hn, h, hp => by
    rw [List.find?_cons, hn y (by simp)]
    exact find_at (i := i) (fun z hz => hn z (by rw [List.take_succ_cons]; exact List.mem_cons_of_mem _ hz)) (by simpa using h) hp
theorem minInt_self (x : Int) : minInt x x = x := by unfold minInt; split <;> rfl
section
variable {t : TurS} {G : Gr} {far closed : Sl} {ds : List Int} {c : List Bool}
theorem step_i {e : Int} {W : World} {Q : Int → World → Prop} (h : TurIs W t G) (hE : G.isE e) (hf : Rd W far 1 eI ds) (hl : ds.length = G.m) (hc : Rd W closed 1 eB c) (hb : ∀ (v : Nat) x, ds[v]? = some x → -1 ≤ x ∧ x ≤ 102 * BW)
    (hQ : ∀ w', Keep W w' → Q (match G.stepP c ds e with | some n => n | none => -1) w') : F_least_step (some ⟨t.t, 0, none⟩) e far closed W Q := by
  unfold F_least_step
  have ok := h.gra.ok
  have hm := ok.m1
  have hfl := hf.len
  have hcl := hc.len
  refine Next_i h fun s1 w1 v1 k1 f1 => ?_
  have l1 := v1.len
  have hnl := G.next_len e
  have hnE : ∀ b ∈ G.nextL e, G.isE b := fun b hb => (G.turn_iff.1 (G.mem_next.1 hb)).2.1
  have gv : ∀ {x : Int}, G.isE x → ds[x.toNat]? = some (dsv ds x) := fun {x} hx => by
    have : x.toNat < ds.length := by have := hx.2; omega
    unfold dsv
    rw [List.getD_eq_getElem?_getD, List.getElem?_eq_getElem this]; rfl
  refine loop_i (fun c' s w2 => ∃ i : Nat, i ≤ (G.nextL e).length ∧ c' = (G.nextL e).length - i ∧ s = ((i : Int), ()) ∧ Keep w1 w2 ∧ ∀ x ∈ (G.nextL e).take i, G.okStep c ds e x = false) (G.nextL e).length ⟨0, Nat.zero_le _, rfl, rfl, Mod.refl _ _, by simp⟩ ?_
  rintro c' s w2 ⟨i, hi, rfl, rfl, k2, hno⟩ X hX
  dsimp only
  refine cond_d (fun hlt => ?_) (fun hge => ?_)
  · have hi' : i < (G.nextL e).length := by omega
    have hget := List.getElem?_eq_getElem hi'
    have hnEi := hnE _ (List.getElem_mem hi')
    have htk := List.take_succ_eq_append_getElem hi'
    generalize (G.nextL e)[i] = n at *
    obtain ⟨p, hp, hcp⟩ := rd_cell (k := .int .i64) (e := fun x => x) ((v1.mod k2 fun _ _ => id).rd lenI) hget
    rw [Int.toNat_natCast]
    have h2 := h.keep (k1.tr k2)
    refine ⟨⟨by omega, hlt⟩, onSome_i hp (ld1_i (k := .int .i64) n hcp (onSome_i rfl (ld1_i (k := .ptr) (some ⟨t.H.g, 0, none⟩) h2.cells.1 ?_)))⟩
    refine weightAt_i h2 hnEi fun a3 w5 hc5 k5 _ => ?_
    have k15 := k2.tr k5
    have KW5 := k1.tr k15
    have next : ∀ wz, Keep w1 wz → G.okStep c ds e n = false → X (IntKind.wrap .i64 ((i : Int) + 1), ()) wz := fun wz kz hn => by
      rw [wi_ i (by omega)]
      refine hX _ _ _ (by omega) ⟨i + 1, hi', rfl, rfl, kz, fun x hx => ?_⟩
      rw [htk] at hx
      rcases List.mem_append.1 hx with hx | hx
      · exact hno x hx
      · have : x = n := by simpa using hx
        rw [this]; exact hn
    intro J hJ
    have core : ∀ b, b = shutB c n → J (b, ()) w5 := by
      rintro b rfl
      apply hJ
      dsimp only
      have d5 : Keep w5 w5.drew := Mod.drew (Mod.refl _ w5)
      have kd := k15.tr d5
      have hfd := hf.mod (KW5.tr d5) eI_ne fun _ _ => id
      have hcd := d5.cell hc5 id
      obtain ⟨pn, hpn, hcn⟩ := rd_cell (k := .int .i64) (e := fun x => x) hfd (gv hnEi)
      obtain ⟨pe, hpe, hce⟩ := rd_cell (k := .int .i64) (e := fun x => x) hfd (gv hE)
      have bn := hb _ _ (gv hnEi)
      have be := hb _ _ (gv hE)
      have hw := ok.w1 hnEi
      have In : 0 ≤ n ∧ n < ((far.l : Nat) : Int) := ⟨hnEi.1, by have := hnEi.2; omega⟩
      have Ie : 0 ≤ e ∧ e < ((far.l : Nat) : Int) := ⟨hE.1, by have := hE.2; omega⟩
      refine cond_i (fun hs => ?_) (fun hs => ?_)
      · have hs' : shutB c n = false := by simpa using hs
        have okE : G.okStep c ds e n = (decide (0 ≤ dsv ds n) && decide (dsv ds n + G.wt n = dsv ds e)) := by unfold Gr.okStep; rw [hs']; rfl
        refine cond_d (fun _ => ⟨In, onSome_i hpn (ld1_i (k := .int .i64) (dsv ds n) hcn ?_)⟩) (fun h => absurd In.2 h)
        refine cond_d (fun h0 => ⟨In, onSome_i hpn (ld1_i (k := .int .i64) (dsv ds n) hcn ⟨Ie, onSome_i hpe (ld1_i (k := .int .i64) (dsv ds e) hce ?_)⟩)⟩) (fun h0 => next _ kd ?_)
        · refine cond_d (fun hlt2 => ⟨In, onSome_i hpn (ld1_i (k := .int .i64) (dsv ds n) hcn ⟨Ie, onSome_i hpe (ld1_i (k := .int .i64) (dsv ds e) hce (ld1_i (k := .int .i64) (G.wt n) hcd ?_))⟩)⟩) (fun hge2 => next _ kd ?_)
          · rw [w64 (n := dsv ds e - G.wt n) (by simp only [BW] at *; omega) (by simp only [BW] at *; omega)]
            refine cond_i (fun heq => ?_) (fun hne => next _ kd ?_)
            · have heq' : dsv ds n = dsv ds e - G.wt n := by simpa using heq
              have hok : G.okStep c ds e n = true := by rw [okE]; simp only [Bool.and_eq_true, decide_eq_true_eq]; exact ⟨h0, by omega⟩
              have := hQ w5.drew (KW5.tr d5)
              rw [show G.stepP c ds e = some n from find_at hno hget hok] at this
              exact this
            · have hne' : ¬ dsv ds n = dsv ds e - G.wt n := by simpa using hne
              rw [okE]; simp only [Bool.and_eq_false_iff, decide_eq_false_iff_not]; exact .inr (by omega)
          · have hge2' : ¬ dsv ds n < dsv ds e := hge2
            rw [okE]; simp only [Bool.and_eq_false_iff, decide_eq_false_iff_not]; exact .inr (by omega)
        · have h0' : ¬ dsv ds n ≥ 0 := h0
          rw [okE]; simp only [Bool.and_eq_false_iff, decide_eq_false_iff_not]; exact .inl (by omega)
      · have hs' : shutB c n = true := by simpa using hs
        exact next _ kd (by unfold Gr.okStep; rw [hs']; rfl)
    have hc5' := hc.mod KW5 eB_ne fun _ _ => id
    refine cond_d (fun hlt3 => ?_) (fun hge3 => core false (shutB_ge (by omega)).symm)
    obtain ⟨pc, hpc, hcc⟩ := rd_cell (k := .bool) (e := fun x => x) hc5' (shutB_get hnEi.1 (by omega))
    exact ⟨⟨hnEi.1, hlt3⟩, onSome_i hpc (ld1_i (k := .bool) (shutB c n) hcc (core _ rfl))⟩
  · have ei : i = (G.nextL e).length := by omega
    subst ei
    rw [List.take_length] at hno
    have := hQ w2 (k1.tr k2)
    rw [show G.stepP c ds e = none from List.find?_eq_none.2 fun x hx => by rw [hno x hx]; simp] at this
    exact this
theorem Along_i {v e : Int} {W : World} {Q : Sl → Bool → World → Prop} (h : TurIs W t G) (hd : G.far c v ds) (hf : Rd W far 1 eI ds) (hc : Rd W closed 1 eB c) (hb : ∀ (v : Nat) x, ds[v]? = some x → -1 ≤ x ∧ x ≤ 102 * BW)
    (hno : ¬ (G.isE e ∧ 0 ≤ dsv ds e) → Q ⟨none, 0, 0⟩ false W) (hyes : ∀ l s w', G.isE e → 0 ≤ dsv ds e → G.LWay c ds e l → Vec w' tInt 1 eI s l → Keep W w' → (∀ b, s.b = some b → W.heap.size ≤ b.block) → Q s true w') :
    F_least_Along (some ⟨t.t, 0, none⟩) e far closed W Q := by
  unfold F_least_Along
  have ok := h.gra.ok
  have hm := ok.m1
  have hl := hd.1
  have hfl := hf.len
  rw [hl] at hfl
  refine cond_i (fun h => by simp at h) (fun _ => cond_d (fun h => hno fun h' => by omega) (fun h0 => ?_))
  refine onSome_i rfl (ld1_i (k := .ptr) (some ⟨t.H.g, 0, none⟩) h.cells.1 (Edges_i h.gra ?_))
  rw [hfl, minInt_self]
  refine cond_d (fun h => hno fun h' => by omega) (fun h1 => ?_)
  have hE : G.isE e := ⟨by omega, by omega⟩
  obtain ⟨p, hp, hcp⟩ := rd_cell (k := .int .i64) (e := fun x => x) hf (far_get hd hE)
  refine ⟨⟨hE.1, hE.2⟩, onSome_i hp (ld1_i (k := .int .i64) (dsv ds e) hcp (cond_d (fun hneg => hno fun h' => ?_) (fun hpos => ?_)))⟩
  · have : dsv ds e < 0 := hneg
    omega
  have hpos' : 0 ≤ dsv ds e := by have : ¬ dsv ds e < 0 := hpos; omega
  obtain ⟨tot, htot⟩ := ok.lway_ex hd (dsv ds e).toNat hE hpos' (by omega)
  have htl := htot.len ok
  refine loop_i (fun c' s w2 => ∃ (cur : Int) (l0 l : List Int) (o : Sl), c' = l.length ∧ s = (cur, o, ()) ∧ G.isE cur ∧ G.LWay c ds cur l ∧ l0 ++ l = tot ∧ Keep W w2 ∧ Vec w2 tInt 1 eI o l0 ∧ (∀ b, o.b = some b → W.heap.size ≤ b.block)) tot.length
    ⟨e, [], tot, ⟨none, 0, 0⟩, rfl, rfl, hE, htot, rfl, Mod.refl _ _, Vec.nil _ _ _ _, fun b hb => by cases hb⟩ ?_
  rintro c' s w2 ⟨cur, l0, l, o, rfl, rfl, hcE, hlw, hcat, k2, v2, f2⟩ X hX
  dsimp only
  obtain ⟨p2, hp2, hcp2⟩ := rd_cell (k := .int .i64) (e := fun x => x) (hf.mod k2 eI_ne fun _ _ => id) (far_get hd hcE)
  refine ⟨⟨hcE.1, hcE.2⟩, onSome_i hp2 (ld1_i (k := .int .i64) (dsv ds cur) hcp2 ?_)⟩
  cases hlw with
  | nil hz =>
    refine cond_d (fun h => absurd (show dsv ds cur > 0 from h) (by omega)) (fun _ => ?_)
    rw [List.append_nil] at hcat
    subst hcat
    exact hyes _ o w2 hE hpos' htot v2 k2 f2
  | @cons _ n l hz hst hlw =>
    refine cond_d (fun _ => ?_) (fun h => absurd (show dsv ds cur > 0 from hz) h)
    refine step_i (h.keep k2) hcE (hf.mod k2 eI_ne fun _ _ => id) hl (hc.mod k2 eB_ne fun _ _ => id) hb fun w3 k3 => ?_
    rw [hst]
    dsimp only
    have hnE := (G.turn_iff.1 (G.step_spec hst).1).2.1
    refine cond_d (fun h => absurd hnE.1 (by have : n < 0 := h; omega)) (fun _ => ?_)
    refine alloc_i fun w4 o4 k4 z4 => ?_
    have k34 := k3.tr k4
    have v4 := v2.mod k34 fun _ _ => id
    have vx : Vec w4 tInt 1 eI ⟨some ⟨w3.heap.size, 0, none⟩, 1, 1⟩ [n] := Vec.new lenI [n] o4 (by simp [maxLen])
    have hl0 : l0.length ≤ tot.length := by rw [← hcat]; simp
    have hz3 := k34.size
    have hz2 := k2.size
    refine append_i elem_sInt lenI oneI v4 (vx.rd lenI) (by simp; omega) (by simp; omega) fun r w5 v5 m5 f5 _ => ?_
    refine hX l.length _ _ (by simp) ⟨n, l0 ++ [n], l, r, rfl, rfl, hnE, hlw, by rw [← hcat]; simp, (k2.tr k34).fresh m5 fun k ⟨b, hb, e⟩ => by rw [e]; exact f2 b hb, v5, fun b hb => ?_⟩
    rcases f5 with h1 | ⟨a, ha, hlt⟩
    · exact f2 b (by rw [← h1]; exact hb)
    · rw [hb] at ha; cases ha; omega
end
end Go.Proofs.YtljiijljeipdhaaGreat

/-
  The program's search: up, down, meet, Dist, Path.
-/
namespace Go.Proofs.YtljiijljeipdhaaGreat
open Go Go.Den

section
variable {HL : LevS} {n : Nat} {A L : List Arc} {R : List Int} {W : World}
theorem nx_up {fs : List Int} (hA : OkL n A) : NxOk n (inSrc n fs) (upL A R) (fun e => e.t) := by
  refine ⟨fun v h => h.2, fun v e he => ?_⟩
  have hm := hA.may e (mem_outL.1 (List.mem_filter.1 he).1).1
  exact ⟨hm.2.2.1, hm.2.2.2.1, hm.2.2.2.2.2.1, hm.2.2.2.2.2.2.1⟩
theorem nx_down {fs : List Int} (hA : OkL n A) : NxOk n (inSrc n fs) (downL A R) (fun e => e.f) := by
  refine ⟨fun v h => h.2, fun v e he => ?_⟩
  have hm := hA.may e (mem_inL.1 (List.mem_filter.1 he).1).1
  exact ⟨hm.1, hm.2.1, hm.2.2.2.2.2.1, hm.2.2.2.2.2.2.1⟩

theorem sup_i {from_ : Sl} {fs : List Int} {Q : (Sl × Sl × Unit) → World → Prop} (h : LevIs W HL n A R) (hn : n ≤ 51) (hf : Rd W from_ 1 eI fs) (hfl : fs.length ≤ 1000)
    (hQ : ∀ s1 s2 ds bs w', Grown n (inSrc n fs) (upL A R) (fun e => e.t) ds bs → Vec w' tInt 1 eI s1 ds → Vec w' tInt 1 eI s2 bs → Keep W w' → (∀ b, s1.b = some b → W.heap.size ≤ b.block) → (∀ b, s2.b = some b → W.heap.size ≤ b.block) → Q (s1, s2, ()) w') :
    F_search_up (some ⟨HL.gl, 0, none⟩) from_ W Q := by
  unfold F_search_up
  refine alloc_i fun w1 o1 k1 z1 => ?_
  refine grow_i (nx := upL A R) (en := fun e => e.t) (h.keep k1) hn (hf.mod k1 eI_ne fun _ _ => id) hfl (nx_up h.net.ok) (fun v => ?_) (fun v w K hw hK => ?_) (fun e w K hK => ?_) fun s1 s2 ds bs w2 hG v1 v2 k2 f1 f2 => ?_
  · have := h.net.ok.out_len v
    have : (upL A R v).length ≤ (outL A v).length := List.length_filter_le _ _
    omega
  · refine callV_i S_levels_Levels_Up (by kernel_rfl) (first := #[.pointer (some ⟨HL.gl, 0, none⟩)]) (cap := #[]) (decK_intro (ks := [.c .ptr, .c (.int .i64)]) (t := (some ⟨HL.gl, 0, none⟩, v, ())) ?_)
    show F_levels_Levels_Up (some ⟨HL.gl, 0, none⟩) v w fun s w' => K (.slice s.b s.l s.c) w'
    exact Up_i hw hK
  · refine callV_i S_search_up_c1 (by kernel_rfl) (first := #[]) (cap := #[]) (decK_intro (ks := [.agg [.int .i64, .int .i64, .int .i64, .int .i64]]) (t := (tupA e, ())) ?_)
    show F_search_up_c1 (tupA e) w fun x w' => K (.int .i64 x) w'
    unfold F_search_up_c1
    refine alloc_i fun w3 oa k3 _ => ?_
    exact ld1_i (k := .int .i64) e.t (own_arc (x := e) oa).2.1 (hK w3 k3)
  · have z := k1.size
    refine tree_store (a := s1) (b := s2) (o1.mod k2 id) rfl fun w3 o3 m3 _ => ?_
    refine ldN_i (l := [.slice, .slice]) (s1, s2, ()) (own_all o3) ?_
    exact hQ s1 s2 ds bs w3 hG (v1.mod m3 fun a ha e => by have := f1 a ha; have : a.block = W.heap.size := e; omega) (v2.mod m3 fun a ha e => by have := f2 a ha; have : a.block = W.heap.size := e; omega)
      ((k1.tr k2).fresh m3 fun k e => by rw [show k = W.heap.size from e]; exact Nat.le_refl _) (fun b hb => by have := f1 b hb; omega) (fun b hb => by have := f2 b hb; omega)
theorem sdown_i {to : Sl} {ts : List Int} {Q : (Sl × Sl × Unit) → World → Prop} (h : LevIs W HL n A R) (hn : n ≤ 51) (hf : Rd W to 1 eI ts) (hfl : ts.length ≤ 1000)
    (hQ : ∀ s1 s2 ds bs w', Grown n (inSrc n ts) (downL A R) (fun e => e.f) ds bs → Vec w' tInt 1 eI s1 ds → Vec w' tInt 1 eI s2 bs → Keep W w' → (∀ b, s1.b = some b → W.heap.size ≤ b.block) → (∀ b, s2.b = some b → W.heap.size ≤ b.block) → Q (s1, s2, ()) w') :
    F_search_down (some ⟨HL.gl, 0, none⟩) to W Q := by
  unfold F_search_down
  refine alloc_i fun w1 o1 k1 z1 => ?_
  refine grow_i (nx := downL A R) (en := fun e => e.f) (h.keep k1) hn (hf.mod k1 eI_ne fun _ _ => id) hfl (nx_down h.net.ok) (fun v => ?_) (fun v w K hw hK => ?_) (fun e w K hK => ?_) fun s1 s2 ds bs w2 hG v1 v2 k2 f1 f2 => ?_
  · have := h.net.ok.in_len v
    have : (downL A R v).length ≤ (inL A v).length := List.length_filter_le _ _
    omega
  · refine callV_i S_levels_Levels_Down (by kernel_rfl) (first := #[.pointer (some ⟨HL.gl, 0, none⟩)]) (cap := #[]) (decK_intro (ks := [.c .ptr, .c (.int .i64)]) (t := (some ⟨HL.gl, 0, none⟩, v, ())) ?_)
    show F_levels_Levels_Down (some ⟨HL.gl, 0, none⟩) v w fun s w' => K (.slice s.b s.l s.c) w'
    exact Down_i hw hK
  · refine callV_i S_search_down_c1 (by kernel_rfl) (first := #[]) (cap := #[]) (decK_intro (ks := [.agg [.int .i64, .int .i64, .int .i64, .int .i64]]) (t := (tupA e, ())) ?_)
    show F_search_down_c1 (tupA e) w fun x w' => K (.int .i64 x) w'
    unfold F_search_down_c1
    refine alloc_i fun w3 oa k3 _ => ?_
    exact ld1_i (k := .int .i64) e.f (own_arc (x := e) oa).1 (hK w3 k3)
  · have z := k1.size
    refine tree_store (a := s1) (b := s2) (o1.mod k2 id) rfl fun w3 o3 m3 _ => ?_
    refine ldN_i (l := [.slice, .slice]) (s1, s2, ()) (own_all o3) ?_
    exact hQ s1 s2 ds bs w3 hG (v1.mod m3 fun a ha e => by have := f1 a ha; have : a.block = W.heap.size := e; omega) (v2.mod m3 fun a ha e => by have := f2 a ha; have : a.block = W.heap.size := e; omega)
      ((k1.tr k2).fresh m3 fun k e => by rw [show k = W.heap.size from e]; exact Nat.le_refl _) (fun b hb => by have := f1 b hb; omega) (fun b hb => by have := f2 b hb; omega)

theorem meet_i {s1 t1 s2 t2 : Sl} {us ds : List Int} {Q : Int → Int → World → Prop} (h1 : Rd W s1 1 eI us) (h2 : Rd W s2 1 eI ds) (hl : us.length = ds.length) (hn : us.length ≤ 51)
    (hu : ∀ (v : Nat) (x : Int), us[v]? = some x → -1 ≤ x ∧ x ≤ 51 * BW) (hd : ∀ (v : Nat) (x : Int), ds[v]? = some x → -1 ≤ x ∧ x ≤ 51 * BW) (hQ : ∀ at_ far w', MeetIs us ds us.length at_ far → Keep W w' → Q at_ far w') : F_search_meet (s1, t1, ()) (s2, t2, ()) W Q := by
  unfold F_search_meet
  refine alloc_i fun w1 o1 k1 z1 => alloc_i fun w2 o2 k2 z2 => ?_
  have K2 := k1.tr k2
  have l1 := h1.len
  have l2 := h2.len
  have c1 : w2.cell? ((⟨W.heap.size, 0, none⟩ : Addr).add 0) = some (sv s1) := by rw [addr_lit, (o1.mod k2 id).cell]; rfl
  refine ld1_i (k := .slice) s1 c1 ?_
  refine loop_i (fun c t w3 => ∃ (k : Nat) (at_ far : Int), k ≤ us.length ∧ c = us.length - k ∧ t = (at_, far, (k : Int), ()) ∧ MeetIs us ds k at_ far ∧ Keep w2 w3) us.length ⟨0, -1, 0, Nat.zero_le _, rfl, rfl, MeetIs.start us ds, Mod.refl _ _⟩ ?_
  rintro c t w3 ⟨k, at_, far, hk, rfl, rfl, hm, k3⟩ X hX
  dsimp only
  refine cond_d (fun hlt => ?_) (fun hge => ?_)
  · have hk' : k < us.length := by omega
    obtain ⟨x, hx⟩ : ∃ x, us[k]? = some x := ⟨_, List.getElem?_eq_getElem hk'⟩
    obtain ⟨y, hy⟩ : ∃ y, ds[k]? = some y := ⟨_, List.getElem?_eq_getElem (by omega)⟩
    have xb := hu k x hx
    have yb := hd k y hy
    have cellx : ∀ {wx : World}, Keep w2 wx → ∃ p, s1.b = some p ∧ wx.cell? (p.add (k * 1)) = some (.int .i64 x) := fun kx => rd_cell (k := .int .i64) (e := fun x => x) (h1.mod (K2.tr kx) eI_ne fun _ _ => id) hx
    have celly : ∀ {wx : World}, Keep w2 wx → ∃ p, s2.b = some p ∧ wx.cell? (p.add (k * 1)) = some (.int .i64 y) := fun kx => rd_cell (k := .int .i64) (e := fun x => x) (h2.mod (K2.tr kx) eI_ne fun _ _ => id) hy
    have c2 : ∀ {wx : World}, Keep w2 wx → wx.cell? ((⟨w1.heap.size, 0, none⟩ : Addr).add 0) = some (sv s2) := fun kx => by rw [addr_lit, (o2.mod kx id).cell]; rfl
    have d3 : Keep w3 w3.drew := Mod.drew (Mod.refl _ w3)
    have k3d := k3.tr d3
    have wxy : IntKind.wrap .i64 (x + y) = x + y := w64 (by simp only [BW] at *; omega) (by simp only [BW] at *; omega)
    have b1 : 0 ≤ (k : Int) ∧ (k : Int) < (s1.l : Int) := ⟨by omega, hlt⟩
    have b2 : 0 ≤ (k : Int) ∧ (k : Int) < (s2.l : Int) := ⟨by omega, by omega⟩
    obtain ⟨p1, hp1, hc1⟩ := cellx k3
    obtain ⟨p2, hp2, hc2⟩ := celly k3
    obtain ⟨p2', hp2', hc2'⟩ := celly k3d
    rw [hp2] at hp2'; cases hp2'
    rw [Int.toNat_natCast, wi_ k (by omega)]
    have skip : (0 ≤ x → 0 ≤ y → 0 ≤ at_ ∧ far ≤ x + y) → X (at_, far, ((k + 1 : Nat) : Int), ()) w3 := fun hno => hX _ _ _ (by omega) ⟨k + 1, at_, far, hk', rfl, rfl, hm.skip hx hy hno, k3⟩
    have take : 0 ≤ x → 0 ≤ y → (at_ < 0 ∨ x + y < far) → X ((k : Int), x + y, ((k + 1 : Nat) : Int), ()) w3.drew := fun hx0 hy0 hlt2 => hX _ _ _ (by omega) ⟨k + 1, _, _, hk', rfl, rfl, hm.take hx hy hx0 hy0 hlt2, k3d⟩
    refine ⟨b1, onSome_i hp1 (ld1_i (k := .int .i64) x hc1 ?_)⟩
    refine cond_d (fun hx0 => ?_) (fun hx0 => skip fun h => absurd h hx0)
    have hx0' : 0 ≤ x := hx0
    refine ld1_i (k := .slice) s2 (c2 k3) ⟨b2, onSome_i hp2 (ld1_i (k := .int .i64) y hc2 ?_)⟩
    refine cond_d (fun hy0 => ?_) (fun hy0 => skip fun _ h => absurd h hy0)
    have hy0' : 0 ≤ y := hy0
    refine cond_d (fun ha => ?_) (fun ha => ?_)
    · refine ld1_i (k := .slice) s2 (c2 k3d) ⟨b2, onSome_i hp2 (ld1_i (k := .int .i64) y hc2' ?_)⟩
      rw [wxy]; exact take hx0' hy0' (.inl ha)
    · refine ld1_i (k := .slice) s2 (c2 k3) ⟨b2, onSome_i hp2 (ld1_i (k := .int .i64) y hc2 ?_)⟩
      rw [wxy]
      refine cond_d (fun hlt2 => ?_) (fun hge2 => ?_)
      · refine ld1_i (k := .slice) s2 (c2 k3d) ⟨b2, onSome_i hp2 (ld1_i (k := .int .i64) y hc2' ?_)⟩
        rw [wxy]; exact take hx0' hy0' (.inr hlt2)
      · refine skip fun _ _ => ⟨?_, ?_⟩
        · have : ¬ at_ < 0 := ha
          omega
        · have : ¬ x + y < far := hge2
          omega
  · have ek : k = us.length := by omega
    subst ek
    exact hQ at_ far w3 hm (K2.tr k3)

/-- How far it is, going up, then down. -/
abbrev UDD (n : Nat) (A : List Arc) (R : List Int) (from_ : Int) (ts : List Int) : Int → Prop := DP (GW (inSrc n [from_]) (upL A R) (fun e => e.t)) (GW (inSrc n ts) (downL A R) (fun e => e.f))
theorem grown_bnd51 {src : Int → Prop} {nx : Int → List Arc} {en : Arc → Int} {ds bs : List Int} (h : Grown n src nx en ds bs) (hn : n ≤ 51) : ∀ (v : Nat) (x : Int), ds[v]? = some x → -1 ≤ x ∧ x ≤ 51 * BW := fun v x hx => by
  have := h.bnd v x hx
  simp only [BW] at *
  omega

theorem Dist_i {from_ : Int} {to : Sl} {ts : List Int} {Q : Int → Bool → World → Prop} (h : LevIs W HL n A R) (hn : n ≤ 51) (ht : Rd W to 1 eI ts) (htl : ts.length ≤ 1000)
    (hQ : ∀ dd w', LeastIs (UDD n A R from_ ts) dd → Keep W w' → Q (max dd 0) (decide (0 ≤ dd)) w') : F_search_Dist (some ⟨HL.gl, 0, none⟩) from_ to W Q := by
  unfold F_search_Dist
  refine alloc_i fun w1 o1 k1 z1 => ?_
  refine sup_i (h.keep k1) hn ((Vec.new lenI [from_] o1 (by simp [maxLen])).rd lenI) (by simp) fun s1 s2 us bs w2 hG v1 v2 k2 _ _ => ?_
  have K2 := k1.tr k2
  refine sdown_i (h.keep K2) hn (ht.mod K2 eI_ne fun _ _ => id) htl fun s3 s4 ds bs' w3 hG' v3 v4 k3 _ _ => ?_
  refine meet_i ((v1.mod k3 fun _ _ => id).rd lenI) (v3.rd lenI) (by rw [hG.far.1, hG'.far.1]) (by rw [hG.far.1]; exact hn) (grown_bnd51 hG hn) (grown_bnd51 hG' hn) fun at_ far w4 hm k4 => ?_
  rw [hG.far.1] at hm
  obtain ⟨dd, hdd, e1, e2⟩ := hm.least hG.far hG'.far fun v d hv => by have := hv.rng (nx_up (R := R) h.net.ok); exact ⟨this.1, this.2.1⟩
  have e3 : decide (at_ ≥ 0) = decide (0 ≤ dd) := by rw [decide_eq_decide]; exact e2
  rw [e1, e3]
  exact hQ dd w4 hdd ((K2.tr k3).tr k4)
end
end Go.Proofs.YtljiijljeipdhaaGreat

/-
  The program's engine: New, and how far it is by the levels.
-/
namespace Go.Proofs.YtljiijljeipdhaaGreat
open Go Go.Den

structure EngS where
  e : Nat
  t : TurS
  L : LevS
  ord : Sl
abbrev Gr.A (G : Gr) : List Arc := (bldN G.m G.net G.m).all
abbrev Gr.R (G : Gr) : List Int := (bldN G.m G.net G.m).rank
structure EngIs (w : World) (E : EngS) (G : Gr) : Prop where
  head : Own w E.e tEngine [.pointer (some ⟨E.t.t, 0, none⟩), .pointer (some ⟨E.L.gl, 0, none⟩), sv E.ord]
  tur : TurIs w E.t G
  lev : LevIs w E.L G.m (Gr.A G) (Gr.R G)
  ord : ∃ os : List Int, Rd w E.ord 1 eI os ∧ os.length = G.m ∧ ∀ i, i < G.m → ∃ v : Nat, v < G.m ∧ os[i]? = some (v : Int) ∧ rankOf (Gr.R G) (v : Int) = (G.m : Int) - 1 - i
theorem EngIs.keep {w w' : World} {E : EngS} {G : Gr} (h : EngIs w E G) (k : Keep w w') : EngIs w' E G := by
  obtain ⟨os, h1, h2⟩ := h.ord
  exact ⟨h.head.mod k id, h.tur.keep k, h.lev.keep k, os, h1.mod k eI_ne fun _ _ => id, h2⟩
theorem EngIs.cells {w : World} {E : EngS} {G : Gr} (h : EngIs w E G) : w.cell? ((⟨E.e, 0, none⟩ : Addr).add 0) = some (.pointer (some ⟨E.t.t, 0, none⟩)) ∧ w.cell? ((⟨E.e, 0, none⟩ : Addr).add 1) = some (.pointer (some ⟨E.L.gl, 0, none⟩)) ∧ w.cell? ((⟨E.e, 0, none⟩ : Addr).add 2) = some (sv E.ord) := own3 h.head

theorem ENew_i {g : GT} {G : Gr} {W : World} {Q : Option Addr → Int → World → Prop} (h : GvIs W g G) (ok : OkG G) (hQ : ∀ E w', EngIs w' E G → Keep W w' → Q (some ⟨E.e, 0, none⟩) 0 w') : F_engine_New g W Q := by
  unfold F_engine_New
  have hm := ok.m1
  refine alloc_i fun w1 o1 k1 z1 => ?_
  refine ldN_i (l := [.slice, .slice, .slice]) g (own_g (g := g) o1) ?_
  refine gNew_i (g := g) (h.keep k1) ok fun H w2 hH k2 _ => ?_
  refine cond_i (fun h => by simp at h) (fun _ => ?_)
  refine TNew_i hH fun t w3 ht htH k3 => ?_
  subst htH
  refine onSome_i rfl (ld1_i (k := .ptr) (some ⟨t.H.g, 0, none⟩) ht.cells.1 (Edges_i ht.gra ?_))
  refine Arcs_i ht fun s1 w5 v5 k5 f5 => ?_
  have hal := G.arcs_len hm.2
  refine DeleteFunc_i (p := fun x => x.f == x.t) (C := fun _ => True) v5 (by omega) trivial (fun _ _ _ _ => trivial) (fun x w K _ _ hK => ?_) fun s2 w6 v6 m6 e6 => ?_
  · refine callV_i S_engine_New_c1 (by kernel_rfl) (decK_intro (ks := [.agg [.int .i64, .int .i64, .int .i64, .int .i64]]) (t := (tupA x, ())) ?_)
    show F_engine_New_c1 _ _ _
    unfold F_engine_New_c1
    refine alloc_i fun wa oa ka _ => ?_
    have oa' : Own wa w.heap.size tArc (eArc x) := oa
    exact ld1_i (k := .int .i64) x.f (own_arc oa').1 (ld1_i (k := .int .i64) x.t (own_arc oa').2.1 (hK wa ka))
  have hnet : (G.arcs.filter fun x => !(x.f == x.t)) = G.net := rfl
  rw [hnet] at v6
  have k36 : Keep w3 w6 := k5.fresh m6 fun k ⟨b, hb, e⟩ => by rw [e]; exact f5 b hb
  have hnl : G.net.length ≤ 2601 := Nat.le_trans (List.length_filter_le _ _) hal
  refine New_i (v6.rd lenA) (by omega) (fun w7 k7 hbad => ?_) fun w7 N n0 n1 hmay hN k7 _ => ?_
  · exact absurd ⟨by omega, by omega, fun a ha => by rw [Int.toNat_natCast]; exact (ok.net_may a ha).1⟩ hbad
  rw [Int.toNat_natCast, putAll_self (p := []) (by simpa using ok.net_ok), List.nil_append] at hN
  have d7 : Keep w7 w7.drew := Mod.drew (Mod.refl _ w7)
  have k37 := (k36.tr k7).tr d7
  have ht7 := ht.keep k37
  refine onSome_i rfl (ld1_i (k := .ptr) (some ⟨t.H.g, 0, none⟩) ht7.cells.1 ?_)
  have hw40 : ∀ e ∈ G.net, e.w ≤ 40 := fun e he => (ok.net_may e he).2.1
  refine Build_i (hN.keep d7) hm.2 hw40 fun w8 HL hL k8 _ => ?_
  have hL' : LevIs w8 HL G.m (Gr.A G) (Gr.R G) := hL
  clear hL
  have k38 := k37.tr k8
  have ht8 := ht.keep k38
  refine ⟨ht8.cells.1, Edges_i ht8.gra ?_⟩
  refine make_i elem_sInt (enc := eI) (0 : Int) rfl lenI (by omega) (Int.le_refl _) (by omega) (by omega) fun w10 v10 k10 => ?_
  simp only [Int.toNat_natCast] at v10 ⊢
  refine alloc_i fun w11 o11 k11 z11 => ?_
  have z10 : w8.heap.size < w10.heap.size := v10.lt rfl
  generalize hs3 : (⟨some ⟨w8.heap.size, 0, none⟩, G.m, G.m⟩ : Sl) = s3 at *
  have s3b : s3.b = some ⟨w8.heap.size, 0, none⟩ := by rw [← hs3]
  have o11' : Own w11 w10.heap.size tEngine [.pointer (some ⟨t.t, 0, none⟩), .pointer (some ⟨HL.gl, 0, none⟩), sv s3] := by
    have := o11
    rw [← hs3]; exact this
  have k811 := k10.tr k11
  have hL11 := hL'.keep k811
  have ht11 := ht8.keep k811
  have c11 := own3 o11'
  refine ld1_i (k := .slice) s3 c11.2.2 ?_
  have v11 := v10.mod k11 fun _ _ => id
  have rng : ∀ v : Int, 0 ≤ v → v < G.m → 0 ≤ rankOf (Gr.R G) v ∧ rankOf (Gr.R G) v < G.m := fun v h0 h1 => rank_rng ok.net_ok hw40 hm.2 h0 h1
  have rne : ∀ v w : Nat, v < G.m → w < G.m → v ≠ w → rankOf (Gr.R G) (v : Int) ≠ rankOf (Gr.R G) (w : Int) := fun v w hv hw hne => rank_ne ok.net_ok hw40 hm.2 (by omega) (by omega) (by omega) (by omega) (by omega)
  have ronto : ∀ {r : Nat}, r < G.m → ∃ v : Nat, v < G.m ∧ rankOf (Gr.R G) (v : Int) = (r : Int) := fun hr => rank_onto ok.net_ok hw40 hm.2 hr
  have s3l : s3.l = G.m := by rw [← hs3]
  have KW8 := k1.tr (k2.tr (k3.tr k38))
  clear hnl hL11 ht11 c11
  generalize hRR : Gr.R G = R at *
  refine loop_i (fun c s w12 => ∃ (v : Nat) (os : List Int), v ≤ G.m ∧ c = G.m - v ∧ s = ((v : Int), ()) ∧ Keep w8 w12 ∧ Own w12 w10.heap.size tEngine [.pointer (some ⟨t.t, 0, none⟩), .pointer (some ⟨HL.gl, 0, none⟩), sv s3] ∧ Vec w12 tInt 1 eI s3 os ∧ os.length = G.m ∧
      ∀ u : Nat, u < v → os[((G.m : Int) - 1 - rankOf R (u : Int)).toNat]? = some (u : Int)) G.m ⟨0, _, Nat.zero_le _, rfl, rfl, k811, o11', v11, by simp, fun u hu => by omega⟩ ?_
  rintro c s w12 ⟨v, os, hv, rfl, rfl, k12, o12, v12, hlen, hos⟩ X hX
  dsimp only
  refine cond_d (fun hlt => ?_) (fun hge => ?_)
  · have hv' : v < G.m := by omega
    have d12 : Keep w12 w12.drew := Mod.drew (Mod.refl _ w12)
    have kd := k12.tr d12
    have od := o12.mod d12 id
    obtain ⟨c0, c1, c2⟩ := own3 od
    have htd := ht8.keep kd
    have hLd := hL'.keep kd
    refine ld1_i (k := .slice) s3 c2 (onSome_i rfl (ld1_i (k := .ptr) (some ⟨t.H.g, 0, none⟩) htd.cells.1 (ld1_i (k := .ptr) (some ⟨HL.gl, 0, none⟩) c1 (Edges_i htd.gra ⟨c1, c2, ?_⟩))))
    refine Rank_i hLd ⟨c2, ?_⟩
    obtain ⟨r0, r1⟩ := rng (v : Int) (by omega) (by omega)
    have wi : IntKind.wrap .i64 ((IntKind.wrap .i64 ((G.m : Int) - (1 : Int))) - rankOf R (v : Int)) = (((G.m : Int) - 1 - rankOf R (v : Int)).toNat : Int) := by
      rw [w64 (n := (G.m : Int) - 1) (by omega) (by omega), w64 (by omega) (by omega)]; omega
    rw [wi, Int.toNat_natCast]
    have hil : ((G.m : Int) - 1 - rankOf R (v : Int)).toNat < G.m := by omega
    refine ⟨⟨by omega, by omega⟩, onSome_i s3b ?_⟩
    refine (v12.mod d12 fun _ _ => id).store lenI s3b (i := ((G.m : Int) - 1 - rankOf R (v : Int)).toNat) (by omega) (v : Int) (v := .int .i64 (v : Int)) rfl size_Int (oneI _) fun w13 v13 m13 _ => ?_
    have m13' : Mod (fun k => k = w8.heap.size) w12.drew w13 := m13
    rw [wi_ v (by omega)]
    refine hX _ _ _ (by omega) ⟨v + 1, _, hv', rfl, rfl, kd.fresh m13' fun k e => by rw [show k = w8.heap.size from e]; exact Nat.le_refl _, od.mod m13' fun e => by have e' : w10.heap.size = w8.heap.size := e; omega, v13, by rw [List.length_set]; exact hlen, fun u hu => ?_⟩
    rw [List.getElem?_set]
    by_cases e : u = v
    · subst e; rw [if_pos rfl, if_pos (by omega)]
    · have hne := rne u v (by omega) hv' e
      obtain ⟨q0, q1⟩ := rng (u : Int) (by omega) (by omega)
      rw [if_neg (by omega)]
      exact hos u (by omega)
  · have ev : v = G.m := by omega
    subst ev
    subst hRR
    refine hQ ⟨w10.heap.size, t, HL, s3⟩ w12 ⟨o12, ht8.keep k12, hL'.keep k12, os, v12.rd lenI, hlen, fun i hi => ?_⟩ (KW8.tr k12)
    obtain ⟨u, hu, hr⟩ := ronto (r := G.m - 1 - i) (by omega)
    have := hos u hu
    rw [hr, show ((G.m : Int) - 1 - ((G.m - 1 - i : Nat) : Int)).toNat = i by omega] at this
    exact ⟨u, hu, this, by rw [hr]; omega⟩
end Go.Proofs.YtljiijljeipdhaaGreat

/-
  The program's engine: how far it is by the levels; the way.
-/
namespace Go.Proofs.YtljiijljeipdhaaGreat
open Go Go.Den

theorem far_i {E : EngS} {G : Gr} {node : Int} {W : World} {Q : Sl → World → Prop} (h : EngIs W E G) (hQ : ∀ s ds w', G.far [] node ds → Vec w' tInt 1 eI s ds → Keep W w' → (∀ b, s.b = some b → W.heap.size ≤ b.block) → (∀ (v : Nat) x, ds[v]? = some x → -1 ≤ x ∧ x ≤ 102 * BW) → Q s w') :
    F_engine_Engine_far (some ⟨E.e, 0, none⟩) node W Q := by
  unfold F_engine_Engine_far
  have ok := h.tur.gra.ok
  have hm := ok.m1
  have hw40 : ∀ e ∈ G.net, e.w ≤ 40 := fun e he => (ok.net_may e he).2.1
  have rng : ∀ v : Int, 0 ≤ v → v < G.m → 0 ≤ rankOf (Gr.R G) v ∧ rankOf (Gr.R G) v < G.m := fun v h0 h1 => rank_rng ok.net_ok hw40 hm.2 h0 h1
  have rne : ∀ v w : Nat, v < G.m → w < G.m → v ≠ w → rankOf (Gr.R G) (v : Int) ≠ rankOf (Gr.R G) (w : Int) := fun v w hv hw hne => rank_ne ok.net_ok hw40 hm.2 (by omega) (by omega) (by omega) (by omega) (by omega)
  have hA := h.lev.net.ok
  have d : Keep W W.drew := Mod.drew (Mod.refl _ W)
  have hd := h.keep d
  refine onSome_i rfl (ld1_i (k := .ptr) (some ⟨E.L.gl, 0, none⟩) hd.cells.2.1 (onSome_i rfl (ld1_i (k := .ptr) (some ⟨E.t.t, 0, none⟩) hd.cells.1 (onSome_i rfl (ld1_i (k := .ptr) (some ⟨E.t.H.g, 0, none⟩) hd.tur.cells.1 ?_)))))
  refine gIn_i hd.tur.gra fun s1 w1 v1 k1 f1 => ?_
  have K1 := d.tr k1
  have h1 := h.keep K1
  refine ⟨h1.cells.2.1, ?_⟩
  unfold F_search_Down
  refine sdown_i h1.lev hm.2 (v1.rd lenI) (by have := G.inN_len node; omega) fun s2 sb ds bs w2 hG v2 _ k2 f2 _ => ?_
  have K2 := K1.tr k2
  have h2 := h.keep K2
  have hz := K1.size
  refine onSome_i rfl (ld1_i (k := .slice) E.ord h2.cells.2.2 ?_)
  obtain ⟨os, ho, hol, hos⟩ := h.ord
  have hll := ho.len
  rw [hol] at hll
  have F0 : LFar G.m (Gr.A G) (Gr.R G) (GW (inSrc G.m (G.inN node)) (downL (Gr.A G) (Gr.R G)) (fun e => e.f)) 0 ds := LFar.start hG.far (fun v h0 h1 => (rng v h0 h1).2) hG.bnd
  generalize hDn : GW (inSrc G.m (G.inN node)) (downL (Gr.A G) (Gr.R G)) (fun e => e.f) = Dn at F0
  clear hG
  have hlow : ∀ b, s2.b = some b → W.heap.size ≤ b.block := fun b hb => Nat.le_trans hz (f2 b hb)
  refine loop_i (fun c s w3 => ∃ (i : Nat) (ds : List Int), i ≤ G.m ∧ c = G.m - i ∧ s = ((i : Int), ()) ∧ Keep W w3 ∧ Vec w3 tInt 1 eI s2 ds ∧ LFar G.m (Gr.A G) (Gr.R G) Dn i ds) G.m ⟨0, ds, Nat.zero_le _, rfl, rfl, K2, v2, F0⟩ ?_
  clear F0 v2 ds h2
  rintro c s w3 ⟨i, ds, hi, rfl, rfl, k3, v3, F⟩ X hX
  dsimp only
  refine cond_d (fun hlt => ?_) (fun hge => ?_)
  · have hi' : i < G.m := by omega
    obtain ⟨v, hv, hov, hrv⟩ := hos i hi'
    obtain ⟨p, hp, hc⟩ := rd_cell (k := .int .i64) (e := fun x => x) (ho.mod k3 eI_ne fun _ _ => id) hov
    have h3 := h.keep k3
    rw [Int.toNat_natCast]
    refine ⟨⟨by omega, hlt⟩, onSome_i hp (ld1_i (k := .int .i64) (v : Int) hc (onSome_i rfl (ld1_i (k := .ptr) (some ⟨E.L.gl, 0, none⟩) h3.cells.2.1 ?_)))⟩
    refine Up_i h3.lev fun s4 w4 v4 k4 f4 => ?_
    have l4 := v4.len
    have hul : (upL (Gr.A G) (Gr.R G) (v : Int)).length ≤ 262144 := Nat.le_trans (List.length_filter_le _ _) (Nat.le_trans (List.length_filter_le _ _) (hA.len (by omega)))
    obtain ⟨g2, hg2⟩ : ∃ g2, s2.b = some ⟨g2, 0, none⟩ := by
      rcases v3.own with ⟨_, hh⟩ | ⟨g, _, hb, _⟩
      · have := v3.cap; have := v3.len; have := F.len; omega
      · exact ⟨g, hb⟩
    have g2lt : g2 < w3.heap.size := v3.lt hg2
    have f4' : ∀ b, s4.b = some b → b.block ≠ g2 := fun b hb => by have := f4 b hb; omega
    have g2low : W.heap.size ≤ g2 := hlow _ hg2
    have hupm : ∀ e ∈ upL (Gr.A G) (Gr.R G) (v : Int), mayA G.m e ∧ rankOf (Gr.R G) (v : Int) < rankOf (Gr.R G) e.t := fun e he => by
      unfold upL at he
      rw [List.mem_filter, mem_outL] at he
      exact ⟨hA.may e he.1.1, by simpa using he.2⟩
    obtain ⟨x0, hx0⟩ : ∃ x0, ds[v]? = some x0 := ⟨_, List.getElem?_eq_getElem (by rw [F.len]; exact hv)⟩
    have hL0 : LeastIs (fun d => Dn (v : Int) d ∨ ∃ e ∈ (upL (Gr.A G) (Gr.R G) (v : Int)).take 0, ∃ d', UPD (Gr.A G) (Gr.R G) Dn e.t d' ∧ d = e.w + d') x0 := (F.dn v x0 hx0 (by omega)).congr fun k => by simp
    have hb0 := F.bnd v x0 hx0
    have hset0 : ds.set v x0 = ds := by
      apply List.ext_getElem?
      intro j
      rw [List.getElem?_set]
      by_cases e : v = j
      · subst e; rw [if_pos rfl, if_pos (by rw [F.len]; exact hv), hx0]
      · rw [if_neg e]
    have hio := fun e he => upd_iff (A := Gr.A G) (R := Gr.R G) (Dn := Dn) (v := e) (d := he)
    generalize hU : upL (Gr.A G) (Gr.R G) (v : Int) = us at *
    refine loop_i (fun c s w5 => ∃ (j : Nat) (x : Int), j ≤ us.length ∧ c = us.length - j ∧ s = ((j : Int), ()) ∧ Keep W w5 ∧ Vec w5 tInt 1 eI s2 (ds.set v x) ∧ Vec w5 tArc 4 eArc s4 us ∧ (-1 ≤ x ∧ x ≤ (G.m + (i + 1 : Nat)) * BW) ∧
        LeastIs (fun d => Dn (v : Int) d ∨ ∃ e ∈ us.take j, ∃ d', UPD (Gr.A G) (Gr.R G) Dn e.t d' ∧ d = e.w + d') x) us.length
      ⟨0, x0, Nat.zero_le _, rfl, rfl, k3.tr k4, by rw [hset0]; exact v3.mod k4 fun _ _ => id, v4, ⟨hb0.1, by simp only [BW] at *; omega⟩, hL0⟩ ?_
    rintro c s w5 ⟨j, x, hj, rfl, rfl, k5, v5, v4', hbx, hL⟩ Y hY
    dsimp only
    refine cond_d (fun hlt2 => ?_) (fun hge2 => ?_)
    · have hj' : j < us.length := by omega
      have hget := List.getElem?_eq_getElem hj'
      obtain ⟨hmay, hrk⟩ := hupm _ (List.getElem_mem hj')
      have htk := List.take_succ_eq_append_getElem hj'
      generalize us[j] = e at *
      obtain ⟨pa, hpa, hh⟩ := rd_tup (v4'.rd lenA) hget
      rw [Int.toNat_natCast]
      refine ⟨⟨by omega, hlt2⟩, onSome_i hpa (ldN_i (tupA e) hh ?_)⟩
      refine arc_copy (x := e) fun w7 k7 o7 _ => ?_
      refine ld1_i (k := .int .i64) e.t (own_arc o7).2.1 ?_
      have k57 := k5.tr k7
      have v7 := v5.mod k7 fun _ _ => id
      have hvt : v ≠ e.t.toNat := fun h => by
        have : e.t = (v : Int) := by have := hmay.2.2.1; omega
        rw [this] at hrk; omega
      obtain ⟨y, hy⟩ : ∃ y, ds[e.t.toNat]? = some y := ⟨_, List.getElem?_eq_getElem (by rw [F.len]; have := hmay.2.2.1; have := hmay.2.2.2.1; omega)⟩
      have hyt : ((e.t.toNat : Nat) : Int) = e.t := Int.toNat_of_nonneg hmay.2.2.1
      have hLy := F.up e.t.toNat y hy (by rw [hyt]; omega)
      rw [hyt] at hLy
      have hby := F.bnd _ y hy
      have hys : (ds.set v x)[e.t.toNat]? = some y := by rw [List.getElem?_set, if_neg hvt]; exact hy
      have hvs : (ds.set v x)[v]? = some x := by rw [List.getElem?_set, if_pos rfl, if_pos (by rw [F.len]; exact hv)]
      obtain ⟨p1, hp1, hc1⟩ := rd_cell (k := .int .i64) (e := fun x => x) (v7.rd lenI) hys
      have l7 := v7.len
      rw [List.length_set, F.len] at l7
      have hw1 := hmay.2.2.2.2.2.1
      have hw2 := hmay.2.2.2.2.2.2.1
      have hlow := hL.lower hLy (w := e.w) (by omega)
      have hcon : ∀ z, LeastIs (fun d => (Dn (v : Int) d ∨ ∃ e ∈ us.take j, ∃ d', UPD (Gr.A G) (Gr.R G) Dn e.t d' ∧ d = e.w + d') ∨ ∃ d', UPD (Gr.A G) (Gr.R G) Dn e.t d' ∧ d = e.w + d') z → LeastIs (fun d => Dn (v : Int) d ∨ ∃ e ∈ us.take (j + 1), ∃ d', UPD (Gr.A G) (Gr.R G) Dn e.t d' ∧ d = e.w + d') z := fun z hz => hz.congr fun k => by
        rw [htk]
        constructor
        · rintro ((h1 | ⟨e', he', h1⟩) | h1)
          · exact .inl h1
          · exact .inr ⟨e', List.mem_append.2 (.inl he'), h1⟩
          · exact .inr ⟨e, by simp, h1⟩
        · rintro (h1 | ⟨e', he', h1⟩)
          · exact .inl (.inl h1)
          · rcases List.mem_append.1 he' with he' | he'
            · exact .inl (.inr ⟨e', he', h1⟩)
            · have : e' = e := by simpa using he'
              rw [this] at h1
              exact .inr h1
      have It : 0 ≤ e.t ∧ e.t < ((s2.l : Nat) : Int) := ⟨hmay.2.2.1, by rw [l7]; exact hmay.2.2.2.1⟩
      have Iv : 0 ≤ (v : Int) ∧ (v : Int) < ((s2.l : Nat) : Int) := ⟨by omega, by rw [l7]; omega⟩
      have o7' := own_arc o7
      refine ⟨It, onSome_i hp1 (ld1_i (k := .int .i64) y hc1 ?_)⟩
      have same : ∀ wz, Keep w7 wz → ¬ (0 ≤ y ∧ (x < 0 ∨ y + e.w < x)) → Y (IntKind.wrap .i64 ((j : Int) + 1), ()) wz := fun wz kz hn => by
        rw [if_neg hn] at hlow
        rw [wi_ j (by omega)]
        exact hY _ _ _ (by omega) ⟨j + 1, x, hj', rfl, rfl, k57.tr kz, v7.mod kz fun _ _ => id, (v4'.mod k7 fun _ _ => id).mod kz fun _ _ => id, hbx, hcon _ hlow⟩
      have d7 : Keep w7 w7.drew := Mod.drew (Mod.refl _ w7)
      have hsum : y + e.w ≤ (G.m + (i + 1 : Nat)) * BW := by simp only [BW] at *; omega
      have wsm : 0 ≤ y → IntKind.wrap .i64 (y + e.w) = y + e.w := fun h0 => w64 (by omega) (by simp only [BW] at *; omega)
      have put : 0 ≤ y → (x < 0 ∨ y + e.w < x) → storeD Tryz.prog tInt ((⟨g2, 0, none⟩ : Addr).add (v * 1)) (Value.int .i64 (y + e.w)) w7.drew fun w8 => Y (IntKind.wrap .i64 ((j : Int) + 1), ()) w8 := fun h0 hlt3 => by
        rw [if_pos ⟨h0, hlt3⟩] at hlow
        refine (v7.mod d7 fun _ _ => id).store lenI hg2 (i := v) (by rw [List.length_set, F.len]; exact hv) (y + e.w) (v := .int .i64 (y + e.w)) rfl size_Int (oneI _) fun w8 v8 m8 _ => ?_
        have m8' : Mod (fun k => k = g2) w7.drew w8 := m8
        rw [List.set_set] at v8
        rw [wi_ j (by omega)]
        refine hY _ _ _ (by omega) ⟨j + 1, y + e.w, hj', rfl, rfl, (k57.tr d7).fresh m8' fun k e => by rw [show k = g2 from e]; exact g2low, v8, ((v4'.mod k7 fun _ _ => id).mod d7 fun _ _ => id).mod m8' fun b hb e => f4' b hb e, ⟨by omega, hsum⟩, hcon _ hlow⟩
      refine cond_d (fun h0 => ?_) (fun h0 => same _ d7 fun hh => h0 hh.1)
      have h0' : 0 ≤ y := h0
      obtain ⟨p2, hp2, hc2⟩ := rd_cell (k := .int .i64) (e := fun x => x) ((v7.mod d7 fun _ _ => id).rd lenI) hvs
      have ow : ∀ {q : Addr}, w7.cell? q = some (.int .i64 e.w) → w7.drew.cell? q = some (.int .i64 e.w) := fun hq => d7.cell hq id
      rw [Int.toNat_natCast]
      refine ⟨Iv, onSome_i hp2 (ld1_i (k := .int .i64) x hc2 ?_)⟩
      refine cond_d (fun hneg => ?_) (fun hnn => ?_)
      · refine ld1_i (k := .int .i64) e.w (ow o7'.2.2.1) ?_
        rw [wsm h0']
        exact ⟨Iv, onSome_i hg2 (put h0' (.inl hneg))⟩
      · refine ld1_i (k := .int .i64) e.w (ow o7'.2.2.1) ⟨Iv, onSome_i hp2 (ld1_i (k := .int .i64) x hc2 ?_)⟩
        rw [wsm h0']
        refine cond_d (fun hlt4 => ?_) (fun hge4 => same _ d7 fun hh => hh.2.elim hnn hge4)
        refine ld1_i (k := .int .i64) e.w (ow o7'.2.2.1) ?_
        rw [wsm h0']
        exact ⟨Iv, onSome_i hg2 (put h0' (.inr hlt4))⟩
    · have ej : j = us.length := by omega
      subst ej
      rw [List.take_length] at hL
      rw [wi_ i (by omega)]
      refine hX _ _ _ (by omega) ⟨i + 1, _, hi', rfl, rfl, k5, v5, F.step rne hv hrv (hL.congr fun k => by rw [← hU]; exact upd_iff.symm) hbx⟩
  · have ei : i = G.m := by omega
    subst ei
    have hf := F.done fun v h0 h1 => (rng v h0 h1).1
    rw [← hDn] at hf
    exact hQ s2 ds w3 (ok.levels_far hf) v3 k3 hlow fun v x hx => by have := F.bnd v x hx; simp only [BW] at *; omega
end Go.Proofs.YtljiijljeipdhaaGreat
