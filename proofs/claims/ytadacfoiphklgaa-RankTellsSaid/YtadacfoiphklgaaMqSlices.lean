/-
  What the library's functions on rows of arcs compute.
-/
import Derived.Test.YtadacfoiphklgaaFNet
import Derived.Test.YtadacfoiphklgaaIds
import Derived.Test.YtadacfoiphklgaaMpArc
import Derived.Test.YtadacfoiphklgaaMpRow
import Derived.Test.YtadacfoiphklgaaMpCrc
namespace Go.Proofs.Ytadacfoiphklgaa
open Go Go.Den

theorem lenA : ∀ x : Arc, (eArc x).length = 4 := fun _ => rfl
theorem oneA : ∀ x : Arc, ∀ u ∈ eArc x, u.oneCell' = true := by intro x u hu; simp [eArc] at hu; rcases hu with rfl | rfl | rfl | rfl <;> rfl

abbrev arcV (a : Arc) : Value := .agg #[.int .i64 a.f, .int .i64 a.t, .int .i64 a.w, .int .i64 a.m]
def cmp3 (x y : Int) : Int := if x < y then -1 else if x > y then 1 else 0

theorem Compare_i {x y : Int} {w : World} {Q : Int → World → Prop} (hQ : Q (cmp3 x y) w) : F_cmp_Compare_int x y w Q := by
  unfold F_cmp_Compare_int F_cmp_isNaN_int
  refine cond_i (fun h => absurd h (by simp)) (fun _ => ?_)
  refine cond_i (fun h => absurd h (by simp)) (fun _ => ?_)
  unfold cmp3 at hQ
  refine cond_d (fun h => ?_) (fun h => ?_)
  · rwa [if_pos h] at hQ
  · rw [if_neg h] at hQ
    refine cond_d (fun h => ?_) (fun h => ?_)
    · rwa [if_pos h] at hQ
    · rwa [if_neg h] at hQ

theorem byTo_c1_i {a : Arc} {v : Int} {w : World} {Q : Int → World → Prop} (hQ : ∀ w', Keep w w' → Q (cmp3 a.t v) w') : F_net_byTo_c1 (tupA a) v w Q := by
  unfold F_net_byTo_c1
  simp only [allocD]
  refine ld1_i (k := .int .i64) a.t ?_ (Compare_i (hQ _ (Keep.alloc w _)))
  rw [addr_lit, (Own.alloc' w _ _).cell]; rfl
theorem byFrom_c1_i {a : Arc} {v : Int} {w : World} {Q : Int → World → Prop} (hQ : ∀ w', Keep w w' → Q (cmp3 a.f v) w') : F_net_byFrom_c1 (tupA a) v w Q := by
  unfold F_net_byFrom_c1
  simp only [allocD]
  refine ld1_i (k := .int .i64) a.f ?_ (Compare_i (hQ _ (Keep.alloc w _)))
  rw [addr_lit, (Own.alloc' w _ _).cell]; rfl

theorem mid_i (i j : Nat) (h : i + j < 9223372036854775808) : IntKind.wrap .i64 (Int.fdiv (IntKind.wrap .u64 (IntKind.wrap .i64 ((i : Int) + (j : Int)))) (2 ^ (min (Int.toNat (1 : Int)) (IntKind.bits .u64)))) = (((i + j) / 2 : Nat) : Int) := by
  rw [w64 (n := (i : Int) + (j : Int)) (by omega) (by omega)]
  have h1 : IntKind.wrap .u64 ((i : Int) + (j : Int)) = ((i + j : Nat) : Int) := by simp [IntKind.wrap, IntKind.signed, IntKind.bits]; omega
  rw [h1]
  show IntKind.wrap .i64 (Int.fdiv ((i + j : Nat) : Int) 2) = _
  rw [Int.fdiv_eq_ediv_of_nonneg _ (by omega), w64 (by omega) (by omega)]
  omega

theorem rd_tup {w : World} {s : Sl} {xs : List Arc} (h : Rd w s 4 eArc xs) {i : Nat} {x : Arc} (hx : xs[i]? = some x) : ∃ a, s.b = some a ∧ HoldsAt w (a.add (i * 4)) 0 (encs [.int .i64, .int .i64, .int .i64, .int .i64] (tupA x)) := h.get i x hx

theorem BinarySearch_i {s : Sl} {xs : List Arc} {key : Arc → Int} {v : Int} {cmp : Value} {w : World} {Q : Int → Bool → World → Prop} (hs : Rd w s 4 eArc xs) (hsrt : Srt key xs) (hlen : xs.length < 4611686018427387904)
    (hcmp : ∀ (x : Arc) (w : World) (K : Value → World → Prop), (∀ w', Keep w w' → K (.int .i64 (cmp3 (key x) v)) w') → callV Try.prog cmp [arcV x, .int .i64 v] w K)
    (hQ : ∀ (i : Nat) (found : Bool) w', Keep w w' → IsLow key xs v i → (found = true ↔ ∃ x ∈ xs, key x = v) → Q (i : Int) found w') : F_slices_BinarySearchFunc_sArc_Arc_int s v cmp w Q := by
  unfold F_slices_BinarySearchFunc_sArc_Arc_int
  have hl := hs.len
  refine loop_i (fun n t w' => ∃ i j : Nat, i ≤ j ∧ j ≤ xs.length ∧ n = j - i ∧ t = ((i : Int), (j : Int), ()) ∧ Keep w w' ∧ (∀ p x, p < i → xs[p]? = some x → key x < v) ∧ (∀ p x, j ≤ p → xs[p]? = some x → v ≤ key x)) xs.length
    ⟨0, xs.length, by omega, by omega, by omega, by rw [hl]; rfl, Mod.refl _ _, fun p x hp => by omega, fun p x hp hx => by have := (List.getElem?_eq_some_iff.1 hx).1; omega⟩ ?_
  rintro n t w' ⟨i, j, hij, hj, rfl, rfl, hk, hlo, hhi⟩ X hX
  dsimp only
  have hs' := hs.mod hk eArc_ne (fun _ _ => id)
  refine cond_d (fun h => ?_) (fun h => ?_)
  · have hlt : i < j := by omega
    rw [mid_i i j (by omega)]
    have hm : (i + j) / 2 < xs.length := by omega
    refine ⟨by omega, ⟨by omega, by omega⟩, ?_⟩
    obtain ⟨a, ha, hh⟩ := rd_tup hs' (List.getElem?_eq_getElem hm)
    refine onSome_i ha (ldN_i (tupA xs[(i + j) / 2]) hh ?_)
    refine hcmp xs[(i + j) / 2] w' _ fun w2 k2 => ⟨_, rfl, ?_⟩
    rw [w64 (n := (((i + j) / 2 : Nat) : Int) + 1) (by omega) (by omega)]
    unfold cmp3
    refine cond_d (fun h => ?_) (fun h => ?_)
    · have hv : key xs[(i + j) / 2] < v := by
        apply Classical.byContradiction; intro hn; rw [if_neg hn] at h; split at h <;> omega
      refine hX (j - ((i + j) / 2 + 1)) _ _ (by omega) ⟨(i + j) / 2 + 1, j, by omega, hj, rfl, rfl, hk.tr k2, fun p x hp hx => ?_, hhi⟩
      rcases Nat.lt_or_ge p ((i + j) / 2) with h' | h'
      · have := hsrt.get h' hx (List.getElem?_eq_getElem hm); omega
      · have : p = (i + j) / 2 := by omega
        subst this; rw [List.getElem?_eq_getElem hm] at hx; cases hx; exact hv
    · have hv : v ≤ key xs[(i + j) / 2] := by
        apply Classical.byContradiction; intro hn; rw [if_pos (by omega)] at h; omega
      refine hX ((i + j) / 2 - i) _ _ (by omega) ⟨i, (i + j) / 2, by omega, by omega, rfl, rfl, hk.tr k2, hlo, fun p x hp hx => ?_⟩
      rcases Nat.eq_or_lt_of_le hp with h' | h'
      · subst h'; rw [List.getElem?_eq_getElem hm] at hx; cases hx; exact hv
      · have := hsrt.get h' (List.getElem?_eq_getElem hm) hx; omega
  · have hje : j = i := by omega
    subst hje
    have low : IsLow key xs v j := ⟨hj, hlo, hhi⟩
    refine cond_d (fun h => ?_) (fun h => ?_)
    · have hi : j < xs.length := by omega
      refine ⟨⟨by omega, by omega⟩, ?_⟩
      obtain ⟨a, ha, hh⟩ := rd_tup hs' (List.getElem?_eq_getElem hi)
      refine onSome_i ha (ldN_i (tupA xs[j]) hh ?_)
      refine hcmp xs[j] w' _ fun w2 k2 => ⟨_, rfl, hQ j _ w2 (hk.tr k2) low ?_⟩
      have h1 := hhi j _ (Nat.le_refl _) (List.getElem?_eq_getElem hi)
      constructor
      · intro hc
        refine ⟨xs[j], List.getElem_mem hi, ?_⟩
        unfold cmp3 at hc
        by_cases hg : key xs[j] > v
        · rw [if_neg (by omega), if_pos hg] at hc; simp at hc
        · omega
      · rintro ⟨x, hx, hxk⟩
        have := low.found hsrt hx hxk
        rw [List.getElem?_eq_getElem hi] at this
        cases this
        unfold cmp3
        rw [if_neg (by omega), if_neg (by omega)]; rfl
    · have hi : j = xs.length := by omega
      refine hQ j false w' hk low ⟨fun h => by simp at h, ?_⟩
      rintro ⟨x, hx, hxk⟩
      have := low.found hsrt hx hxk
      have := (List.getElem?_eq_some_iff.1 this).1
      omega

theorem byTo_i {s : Sl} {xs : List Arc} {v : Int} {w : World} {Q : Int → Bool → World → Prop} (hs : Rd w s 4 eArc xs) (hsrt : Srt Arc.t xs) (hlen : xs.length < 4611686018427387904)
    (hQ : ∀ (i : Nat) (found : Bool) w', Keep w w' → IsLow Arc.t xs v i → (found = true ↔ ∃ x ∈ xs, x.t = v) → Q (i : Int) found w') : F_net_byTo s v w Q :=
  BinarySearch_i hs hsrt hlen (fun x w K hK => callV_i S_net_byTo_c1 (by kernel_rfl) (decK_intro (ks := [.agg [.int .i64, .int .i64, .int .i64, .int .i64], .c (.int .i64)]) (t := (tupA x, v, ())) (byTo_c1_i hK))) hQ
theorem byFrom_i {s : Sl} {xs : List Arc} {v : Int} {w : World} {Q : Int → Bool → World → Prop} (hs : Rd w s 4 eArc xs) (hsrt : Srt Arc.f xs) (hlen : xs.length < 4611686018427387904)
    (hQ : ∀ (i : Nat) (found : Bool) w', Keep w w' → IsLow Arc.f xs v i → (found = true ↔ ∃ x ∈ xs, x.f = v) → Q (i : Int) found w') : F_net_byFrom s v w Q :=
  BinarySearch_i hs hsrt hlen (fun x w K hK => callV_i S_net_byFrom_c1 (by kernel_rfl) (decK_intro (ks := [.agg [.int .i64, .int .i64, .int .i64, .int .i64], .c (.int .i64)]) (t := (tupA x, v, ())) (byFrom_c1_i hK))) hQ

theorem len_flatA (xs : List Arc) : (xs.flatMap eArc).length = xs.length * 4 := length_flatMap_enc lenA xs
theorem one_flatA (xs : List Arc) : ∀ u ∈ xs.flatMap eArc, u.oneCell' = true := fun u hu => by obtain ⟨x, _, hx⟩ := List.mem_flatMap.1 hu; exact oneA x u hx
theorem take_at {V : Type} {l m : List V} {n : Nat} (h : l.length = n) : (l ++ m).take n = l := by rw [← h, List.take_left]
theorem drop_at {V : Type} {l m : List V} {n : Nat} (h : l.length = n) (k : Nat) : (l ++ m).drop (n + k) = m.drop k := by rw [← h, List.drop_length_add_append]
theorem drop_at0 {V : Type} {l m : List V} {n : Nat} (h : l.length = n) : (l ++ m).drop n = m := by rw [← h, List.drop_left]
/-- First one's own, then what was behind it. -/
theorem splice2 {V : Type} {A X2 cur : List V} {n1 n2 k : Nat} (hA : A.length = k) (hc : n1 + k ≤ cur.length) :
    ((cur.take n1 ++ A ++ cur.drop (n1 + k)).take (n1 + k) ++ X2 ++ (cur.take n1 ++ A ++ cur.drop (n1 + k)).drop (n1 + k + n2)) = cur.take n1 ++ A ++ X2 ++ cur.drop (n1 + k + n2) := by
  have hB : (cur.take n1 ++ A).length = n1 + k := by simp; omega
  rw [take_at hB, drop_at hB, List.drop_drop]
/-- First what is behind, then one's own. -/
theorem splice_lists {V : Type} {X1 X2 R A cur : List V} {n1 n2 k : Nat} (h1 : X1.length = n1) (h2 : X2.length = n2) (hR : k ≤ R.length) (hc : cur = X1 ++ X2 ++ R) :
    ((cur.take (n1 + k) ++ X2 ++ cur.drop (n1 + k + n2)).take n1 ++ A ++ (cur.take (n1 + k) ++ X2 ++ cur.drop (n1 + k + n2)).drop (n1 + k)) = X1 ++ A ++ X2 ++ R.drop k := by
  have hcl : cur.length = n1 + n2 + R.length := by rw [hc]; simp [h1, h2]; omega
  have e0 : (cur.take (n1 + k)).length = n1 + k := by simp; omega
  have e3 : cur.drop (n1 + k + n2) = R.drop k := by
    have : (X1 ++ X2).length = n1 + n2 := by simp [h1, h2]
    rw [hc, show n1 + k + n2 = n1 + n2 + k by omega, drop_at this]
  have e4 : cur.take (n1 + k) = X1 ++ (X2 ++ R).take k := by
    rw [hc, List.append_assoc, ← h1, List.take_length_add_append]
  rw [e3]
  have e5 : (cur.take (n1 + k) ++ X2 ++ R.drop k).drop (n1 + k) = X2 ++ R.drop k := by rw [List.append_assoc, drop_at0 e0]
  rw [e5, e4, List.append_assoc, List.append_assoc, List.append_assoc, take_at h1]
  simp

theorem Insert_i {s : Sl} {xs : List Arc} {a : Arc} {i : Nat} {gv : Nat} {w : World} {Q : Sl → World → Prop} (hs : Vec w tArc 4 eArc s xs) (hv : Own w gv tArc (eArc a)) (hg : ∀ b, s.b = some b → b.block ≠ gv) (hi : i ≤ xs.length) (hb : xs.length < 1099511627776)
    (hQ : ∀ s' w', Vec w' tArc 4 eArc s' (xs.take i ++ [a] ++ xs.drop i) → Mod (fun k => ∃ b, s.b = some b ∧ k = b.block) w w' → (s'.b = s.b ∨ ∃ b, s'.b = some b ∧ w.heap.size ≤ b.block) → Q s' w') :
    F_slices_Insert_sArc_Arc s (i : Int) ⟨some ⟨gv, 0, none⟩, 1, 1⟩ w Q := by
  unfold F_slices_Insert_sArc_Arc
  have hl := hs.len
  have hcap := hs.cap
  have hmax := hs.max
  have rv : Rd w ⟨some ⟨gv, 0, none⟩, 1, 1⟩ 4 eArc [a] := (Vec.mk rfl (Nat.le_refl _) (by simp [maxLen]) (.inr ⟨gv, [], rfl, by simpa using hv, rfl⟩) : Vec w tArc 4 eArc ⟨some ⟨gv, 0, none⟩, 1, 1⟩ [a]).rd lenA
  refine ⟨⟨by omega, by omega⟩, ?_⟩
  refine cond_i (fun h => absurd h (by simp)) (fun _ => ?_)
  refine cond_i (fun h => ?_) (fun h => ?_)
  · have he : i = xs.length := by have : (i : Int) = (s.l : Int) := by simpa using h
                                  omega
    refine append_i elem_sArc lenA oneA hs rv (by simp; omega) (by simp; omega) fun r w' hr hm hrb _ => ?_
    exact hQ r w' (by rw [he, List.take_length, List.drop_length]; simpa using hr) hm hrb
  · have hlt : i < xs.length := by have : (i : Int) ≠ (s.l : Int) := by simpa using h
                                   omega
    have e1 : IntKind.wrap .i64 ((s.l : Int) + ((1 : Nat) : Int)) = ((xs.length + 1 : Nat) : Int) := by rw [w64 (by omega) (by omega)]; omega
    have e2 : IntKind.wrap .i64 ((i : Int) + ((1 : Nat) : Int)) = ((i + 1 : Nat) : Int) := by rw [w64 (by omega) (by omega)]; omega
    rw [e1, e2]
    have hrs := hs.rd lenA
    have hdl : ((xs.drop i).flatMap eArc).length = (xs.length - i) * 4 := by rw [len_flatA, List.length_drop]
    refine cond_d (fun hc => ?_) (fun hc => ?_)
    · -- a new block
      refine ⟨⟨by omega, by omega⟩, ?_⟩
      have e3 : IntKind.wrap .i64 (((xs.length + 1 : Nat) : Int) - (i : Int)) = ((xs.length + 1 - i : Nat) : Int) := by rw [w64 (by omega) (by omega)]; omega
      rw [e3]
      have hpart := hrs.part (i := 0) (j := i) (c := s.c) (by omega) (by omega) (by omega) (by omega)
      refine append_zeros elem_sArc und_int (enc := eArc) ⟨0, 0, 0, 0⟩ rfl lenA hpart (by simp; omega) (by simp; omega) (by simp; omega) fun s2 w2 hv2 k2 hfr => ?_
      have hl2 := hv2.len
      have hc2 := hv2.cap
      simp only [Nat.sub_zero, List.drop_zero, List.length_append, List.length_take, List.length_replicate] at hl2
      have hs2 : s2.l = xs.length + 1 := by omega
      obtain ⟨b2, hb2, hfr2⟩ := hfr
      rcases hv2.own with ⟨h0, _⟩ | ⟨g2, rest, hb2', ho2, hlen2⟩
      · rw [h0] at hb2; cases hb2
      rw [hb2'] at hb2; cases hb2
      have hfr3 : w.heap.size ≤ g2 := hfr2
      refine ⟨⟨by omega, by omega⟩, ?_⟩
      rw [hb2', sliceAddr_own (by show Int.toNat (i : Int) < s2.c; simp; omega)]
      simp only [Int.toNat_natCast]
      have hvo : Own w2 gv tArc (eArc a) := hv.mod k2 id
      refine copy_own (t := tsArc) elem_sArc.under size_Arc ho2 (cs := eArc a) (by rw [lenA]; omega) (hvo.read fun j v hj => by simpa using hj) (by rw [hlen2, lenA]; have := Nat.mul_le_mul_right 4 (show i + 1 ≤ s2.c by omega); omega) (oneA a) fun w3 ho3 m3 z3 => ?_
      refine ⟨⟨by omega, by omega⟩, ⟨by omega, by omega⟩, ?_⟩
      have hd3 : Keep w3 w3.drew := Mod.drew (Mod.refl _ w3)
      have hsrc : ∀ b, s.b = some b → ∀ j v, ((xs.drop i).flatMap eArc)[j]? = some v → w3.drew.cell? ((b.add (i * 4)).add j) = some v := by
        intro b hb j v hj
        have hp2 := hrs.part (i := i) (j := s.l) (c := s.c) (by omega) (by omega) (by omega) (by omega)
        rw [List.take_of_length_le (by simp; omega)] at hp2
        have hb' : sliceAddr s.b s.c i 4 = some (b.add (i * 4)) := by simp [sliceAddr, hb]; omega
        have hrd := firstCells_rd hp2 lenA (a := b.add (i * 4)) hb' j v hj
        have hblk : b.block < w.heap.size := hs.lt hb
        exact hd3.cell (m3.cell (k2.cell hrd id) (by simp; omega)) id
      obtain ⟨b, hb', _⟩ := hrs.get i xs[i] (List.getElem?_eq_getElem hlt)
      have hsb : sliceAddr s.b s.c i 4 = some (b.add (i * 4)) := by simp [sliceAddr, hb']; omega
      rw [sliceAddr_own (show i + 1 < s2.c by omega), hsb]
      refine copy_own (t := tsArc) elem_sArc.under size_Arc (ho3.mod hd3 id) (cs := (xs.drop i).flatMap eArc) (by rw [hdl]; congr 1; omega) (hsrc b hb') (by
        rw [hdl]; simp only [List.length_append, List.length_take, List.length_drop, hlen2, lenA]
        have := Nat.mul_le_mul_right 4 (show xs.length + 1 ≤ s2.c by omega); omega) (one_flatA _) fun w4 ho4 m4 z4 => ?_
      have hw4 : Keep w w4 := (k2.fresh m3 (fun k hk => by rw [hk]; exact hfr3)).fresh ((Keep.mod hd3 : Mod (fun k => k = g2) w3 _).tr m4) (fun k hk => by rw [hk]; exact hfr3)
      have h4 : s2.c * 4 ≥ (xs.length + 1) * 4 := Nat.mul_le_mul_right 4 (by omega)
      rw [show (i + 1) * 4 = i * 4 + 4 by omega, lenA, hdl, splice2 (lenA a) (by rw [hlen2]; omega)] at ho4
      have hX1 : (((xs.drop 0).take (i - 0) ++ List.replicate (xs.length + 1 - i) (⟨0, 0, 0, 0⟩ : Arc)).flatMap eArc ++ rest).take (i * 4) = (xs.take i).flatMap eArc := by
        rw [flat_take lenA _ _ _ (by simp; omega)]
        congr 1
        rw [List.take_append_of_le_length (by simp; omega)]
        simp [List.take_take]
      rw [hX1] at ho4
      refine hQ s2 w4 ⟨by rw [hs2]; simp; omega, hc2, hv2.max, .inr ⟨g2, (((xs.drop 0).take (i - 0) ++ List.replicate (xs.length + 1 - i) (⟨0, 0, 0, 0⟩ : Arc)).flatMap eArc ++ rest).drop (i * 4 + 4 + (xs.length - i) * 4), hb2', ?_, ?_⟩⟩ (Keep.mod hw4) (.inr ⟨_, hb2', hfr3⟩)
      · simpa [List.flatMap_append] using ho4
      · rw [List.length_append, len_flatA, List.length_drop, hlen2]
        simp only [List.length_append, List.length_take, List.length_drop, List.length_cons, List.length_nil]
        omega
    · -- in place
      have hsc : xs.length + 1 ≤ s.c := by omega
      rcases hs.own with ⟨_, h0⟩ | ⟨g, rest, hbg, ho, hlen⟩
      · omega
      have h4 : (xs.length + 1) * 4 ≤ s.c * 4 := Nat.mul_le_mul_right 4 hsc
      have hrest : 4 ≤ rest.length := by rw [List.length_append, len_flatA] at hlen; omega
      have hgv : gv ≠ g := fun h => hg _ hbg h.symm
      refine ⟨⟨by omega, by omega⟩, ⟨by omega, by omega⟩, ?_⟩
      rw [sliceAddr_zero, hbg]
      simp only [Int.toNat_natCast, Nat.sub_zero]
      rw [sliceAddr_own (by omega)]
      refine no_overlap_Arc hv ho hgv (by omega) ?_
      refine cond_i (fun _ => ?_) (fun h => by simp at h)
      refine ⟨⟨by omega, by omega⟩, ⟨by omega, by omega⟩, ?_⟩
      rw [sliceAddr_own (show i < s.c by omega)]
      have hd : Keep w w.drew := Mod.drew (Mod.refl _ w)
      have hX2 : ((xs.flatMap eArc ++ rest).drop (i * 4)) = (xs.drop i).flatMap eArc ++ rest := flat_drop lenA _ _ _ hi
      refine copy_own (t := tsArc) elem_sArc.under size_Arc (ho.mod hd id) (cs := (xs.drop i).flatMap eArc) (by rw [hdl]; congr 1; omega) ((ho.mod hd id).read fun j v hj => by
          have : ((xs.flatMap eArc ++ rest).drop (i * 4))[j]? = some v := by rw [hX2, List.getElem?_append_left (List.getElem?_eq_some_iff.1 hj).1]; exact hj
          rwa [List.getElem?_drop] at this) (by rw [hdl, hlen]; omega) (one_flatA _) fun w6 ho6 m6 z6 => ?_
      refine ⟨⟨by omega, by omega⟩, ?_⟩
      have hv6 : Own w6 gv tArc (eArc a) := (hv.mod hd id).mod m6 hgv
      refine copy_own (t := tsArc) elem_sArc.under size_Arc ho6 (cs := eArc a) (by rw [lenA, Nat.min_eq_left (by omega)]) (hv6.read fun j v hj => by simpa using hj) (by
        rw [lenA]; simp only [List.length_append, List.length_take, List.length_drop, hlen, hdl]; omega) (oneA a) fun w7 ho7 m7 z7 => ?_
      have hX1l : ((xs.take i).flatMap eArc).length = i * 4 := by rw [len_flatA, List.length_take, Nat.min_eq_left hi]
      have hcur : xs.flatMap eArc ++ rest = (xs.take i).flatMap eArc ++ (xs.drop i).flatMap eArc ++ rest := by rw [← List.flatMap_append, List.take_append_drop]
      rw [lenA, hdl, show (i + 1) * 4 = i * 4 + 4 by omega, splice_lists hX1l hdl hrest hcur] at ho7
      refine hQ ⟨some ⟨g, 0, none⟩, xs.length + 1, s.c⟩ w7 ⟨by simp; omega, hsc, hmax, .inr ⟨g, rest.drop 4, rfl, ?_, ?_⟩⟩ ?_ (.inl hbg.symm)
      · simpa [List.flatMap_append] using ho7
      · rw [List.length_append, len_flatA, List.length_drop]
        rw [List.length_append, len_flatA] at hlen
        simp only [List.length_append, List.length_take, List.length_drop, List.length_cons, List.length_nil]
        omega
      · exact (hd.mod.tr (m6.tr m7)).mono fun k _ hk => ⟨_, hbg, hk⟩


theorem Clone_i {s : Sl} {xs : List Arc} {w : World} {Q : Sl → World → Prop} (hs : Rd w s 4 eArc xs) (hb : xs.length < 1099511627776)
    (hQ : ∀ s' w', Vec w' tArc 4 eArc s' xs → Keep w w' → (∀ b, s'.b = some b → w.heap.size ≤ b.block) → Q s' w') : F_slices_Clone_sArc_Arc s w Q := by
  unfold F_slices_Clone_sArc_Arc
  refine cond_i (fun h => ?_) (fun h => ?_)
  · have hn : xs = [] := by
      cases xs with
      | nil => rfl
      | cons x r => obtain ⟨a, ha, _⟩ := hs.get 0 x rfl; rw [ha] at h; cases h
    subst hn
    exact hQ _ w (Vec.nil _ _ _ _) (Mod.refl _ _) (fun b hb => by cases hb)
  · simp only [allocD]
    have k1 := Keep.alloc w (.cells #[] 42)
    have v0 : Vec (w.alloc (.cells #[] 42)) tArc 4 eArc ⟨some ⟨w.heap.size, 0, none⟩, 0, 0⟩ [] := Vec.lit w tArc eArc lenA [] #[] rfl (by simp)
    refine append_i elem_sArc lenA oneA v0 (hs.mod k1 eArc_ne (fun _ _ => id)) (by simp; omega) (by simp; omega) fun r w' hr hm hrb _ => ?_
    refine hQ r w' (by simpa using hr) (Mod.fresh k1 hm fun k ⟨a, ha, hk⟩ => by cases ha; rw [hk]; exact Nat.le_refl _) fun b hb => ?_
    rcases hrb with h1 | ⟨b', hb', hlt⟩
    · rw [hb] at h1; cases h1; exact Nat.le_refl _
    · rw [hb] at hb'; cases hb'; have := k1.size; omega

/-- One is taken out. -/
theorem Delete_i {s : Sl} {xs : List Arc} {i : Nat} {w : World} {Q : Sl → World → Prop} (hs : Vec w tArc 4 eArc s xs) (hi : i < xs.length) (hb : xs.length < 1099511627776)
    (hQ : ∀ s' w', Vec w' tArc 4 eArc s' (xs.take i ++ xs.drop (i + 1)) → Mod (fun k => ∃ b, s.b = some b ∧ k = b.block) w w' → s'.b = s.b → Q s' w') :
    F_slices_Delete_sArc_Arc s (i : Int) ((i : Int) + 1) w Q := by
  unfold F_slices_Delete_sArc_Arc
  have hl := hs.len
  have hcap := hs.cap
  have hmax := hs.max
  rcases hs.own with ⟨_, h0⟩ | ⟨g, rest, hbg, ho, hlen⟩
  · omega
  refine ⟨⟨by omega, by omega⟩, ⟨by omega, by simp; omega⟩, ⟨by omega, by omega⟩, ?_⟩
  refine cond_i (fun h => by simp at h; omega) (fun _ => ?_)
  refine ⟨⟨by omega, by omega⟩, ⟨by omega, by omega⟩, ?_⟩
  have hd : Keep w w.drew := Mod.drew (Mod.refl _ w)
  have ti : Int.toNat (i : Int) = i := rfl
  have tj : Int.toNat ((i : Int) + 1) = i + 1 := rfl
  rw [sliceAddr_zero, ti, tj, Nat.sub_zero, Nat.sub_zero]
  have hvd := hs.mod hd (fun _ _ => id)
  have hv1 := hvd.take (i := i) (by omega)
  have hr2 := (hvd.rd lenA).part (i := i + 1) (j := s.l) (c := s.c) (by omega) (by omega) (by omega) (by omega)
  rw [List.take_of_length_le (by simp; omega)] at hr2
  have hsum : (xs.take i).length + (xs.drop (i + 1)).length = xs.length - 1 := by simp; omega
  refine append_j elem_sArc lenA oneA hv1 hr2 (by rw [hsum]; omega) (by rw [hsum]; omega) fun r w1 hr hm hrb hrn hfit => ?_
  have hl1 := hr.len
  rw [List.length_append, hsum] at hl1
  have hc1 := hr.cap
  have tl : Int.toNat (s.l : Int) = s.l := rfl
  have tr : Int.toNat (r.l : Int) = r.l := rfl
  rw [tl, tr]
  obtain rfl := hfit (by rw [hsum]; show _ ≤ s.c; omega)
  have e1 : i + (s.l - (i + 1)) = xs.length - 1 := by omega
  simp only [e1] at hr hl1 hc1 tr ⊢
  refine ⟨⟨by omega, by omega⟩, ⟨by omega, by omega⟩, ?_⟩
  rw [hbg, sliceAddr_own (show xs.length - 1 < s.c by omega)]
  rcases hr.own with ⟨h0, _⟩ | ⟨g', rest', hbg', ho', hlen'⟩
  · rw [hbg] at h0; cases h0
  have : g' = g := by rw [hbg] at hbg'; cases hbg'; rfl
  subst this
  have hfl : ((xs.take i ++ xs.drop (i + 1)).flatMap eArc).length = (xs.length - 1) * 4 := by rw [len_flatA, List.length_append, hsum]
  have hlen2 : ((xs.take i ++ xs.drop (i + 1)).flatMap eArc ++ rest').length = s.c * 4 := hlen'
  have h4 : xs.length * 4 ≤ s.c * 4 := Nat.mul_le_mul_right 4 (by omega)
  refine clear_own elem_sArc (by simp [Value.oneCell']) ho' (by rw [hlen2]; omega) fun w2 zs hz ho2 m2 _ => ?_
  have hsl : s.l - (xs.length - 1) = 1 := by omega
  rw [hsl] at hz ho2
  rw [take_at hfl] at ho2
  refine hQ _ w2 ⟨by rw [List.length_append, hsum], by show xs.length - 1 ≤ s.c; omega, hmax, .inr ⟨g', zs ++ ((xs.take i ++ xs.drop (i + 1)).flatMap eArc ++ rest').drop ((xs.length - 1) * 4 + 1 * 4), rfl, by simpa using ho2, ?_⟩⟩ ?_ hbg.symm
  · show _ = s.c * 4
    simp only [List.length_append, hfl, List.length_drop, hz]
    rw [List.length_append, hfl] at hlen2
    omega
  · exact ((Keep.mod hd).tr hm).tr (m2.mono fun k _ hk => ⟨_, hbg, hk⟩)

theorem laid_new_i {s : Sl} {xs : List Arc} {a : Arc} {i : Nat} {w : World} {Q : Sl → World → Prop} (hs : Vec w tArc 4 eArc s xs) (hi : i ≤ xs.length) (hb : xs.length < 1099511627776)
    (hQ : ∀ s' w', Vec w' tArc 4 eArc s' (xs.take i ++ [a] ++ xs.drop i) → Mod (fun k => ∃ b, s.b = some b ∧ k = b.block) w w' → (s'.b = s.b ∨ ∃ b, s'.b = some b ∧ w.heap.size ≤ b.block) → Q s' w') :
    F_net_laid s (i : Int) false (tupA a) w Q := by
  unfold F_net_laid
  simp only [allocD]
  have k1 := Keep.alloc w (.cells #[Value.int .i64 a.f, Value.int .i64 a.t, Value.int .i64 a.w, Value.int .i64 a.m] 42)
  refine cond_i (fun _ => ?_) (fun h => by simp at h)
  refine ldN_i (tupA a) (holds_alloc w _ _) ?_
  generalize hw1 : w.alloc (.cells #[Value.int .i64 a.f, Value.int .i64 a.t, Value.int .i64 a.w, Value.int .i64 a.m] 42) = w1 at k1 ⊢
  have k2 := Keep.alloc w1 (.cells #[Value.int .i64 a.f, Value.int .i64 a.t, Value.int .i64 a.w, Value.int .i64 a.m] 42)
  refine Insert_i ((hs.mod k1 (fun _ _ => id)).mod k2 (fun _ _ => id)) (Own.alloc' w1 #[Value.int .i64 a.f, Value.int .i64 a.t, Value.int .i64 a.w, Value.int .i64 a.m] 42) (fun b hb' => ?_) hi hb fun s' w' h1 h2 h3 => ?_
  · exact Nat.ne_of_lt ((hs.mod k1 (fun _ _ => id)).lt hb')
  · refine hQ s' w' h1 (((Keep.mod k1).tr (Keep.mod k2)).tr h2) (h3.imp id fun ⟨b, hb', hlt⟩ => ⟨b, hb', ?_⟩)
    exact Nat.le_trans (Nat.le_trans k1.size k2.size) hlt
theorem laid_at_i {s : Sl} {xs : List Arc} {a : Arc} {i : Nat} {w : World} {Q : Sl → World → Prop} (hs : Vec w tArc 4 eArc s xs) (hi : i < xs.length)
    (hQ : ∀ w', Vec w' tArc 4 eArc s (xs.set i a) → Mod (fun k => ∃ b, s.b = some b ∧ k = b.block) w w' → Q s w') : F_net_laid s (i : Int) true (tupA a) w Q := by
  unfold F_net_laid
  simp only [allocD]
  have k1 := Keep.alloc w (.cells #[Value.int .i64 a.f, Value.int .i64 a.t, Value.int .i64 a.w, Value.int .i64 a.m] 42)
  refine cond_i (fun h => by simp at h) (fun _ => ?_)
  refine ldN_i (tupA a) (holds_alloc w _ _) ?_
  have hl := hs.len
  have hs1 := hs.mod k1 (fun _ _ => id)
  obtain ⟨b, hb, _⟩ := (hs.rd lenA).get i xs[i] (List.getElem?_eq_getElem hi)
  refine ⟨⟨by omega, by omega⟩, onSome_i hb ?_⟩
  refine hs1.store lenA hb hi a rfl size_Arc (oneA a) fun w' h1 h2 _ => hQ w' h1 ((Keep.mod k1).tr (h2.mono fun k _ hk => ⟨b, hb, hk⟩))

end Go.Proofs.Ytadacfoiphklgaa
