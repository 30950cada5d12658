import Derived.Test.YtjjgcimlmjnaeaaGreatFNet
import Derived.Test.YtjjgcimlmjnaeaaGreatIds
import Derived.Test.YtjjgcimlmjnaeaaGreatA2
import Derived.Test.YtjjgcimlmjnaeaaGreatA4
import Derived.Test.YtjjgcimlmjnaeaaGreatFHeap
import Derived.Test.YtjjgcimlmjnaeaaGreatIdsM
namespace Go.Proofs.YtjjgcimlmjnaeaaGreat
open Go Go.Den
theorem lenA : ∀ x : Arc, (eArc x).length = 4 := fun _ => rfl
theorem oneA : ∀ x : Arc, ∀ u ∈ eArc x, u.oneCell' = true := by intro x u hu; simp [eArc] at hu; rcases hu with rfl | rfl | rfl | rfl <;> rfl
abbrev arcV (a : Arc) : Value := .agg #[.int .i64 a.f, .int .i64 a.t, .int .i64 a.w, .int .i64 a.m]
def cmp3 (x y : Int) : Int := if x < y then -1 else if x > y then 1 else 0
theorem Compare_i {x y : Int} {w : World} {Q : Int → World → Prop} (hQ : Q (cmp3 x y) w) : F_cmp_Compare_int x y w Q := by
 unfold F_cmp_Compare_int F_cmp_isNaN_int
 refine cond_i (fun h => absurd h (by simp)) (fun _ => ?_)
 refine cond_i (fun h => absurd h (by simp)) (fun _ => ?_)
 unfold cmp3 at hQ
 refine cond_d (fun h => ?_) (fun h => ?_)
 ·rwa [if_pos h] at hQ
 ·rw [if_neg h] at hQ
  refine cond_d (fun h => ?_) (fun h => ?_)
  ·rwa [if_pos h] at hQ
  ·rwa [if_neg h] at hQ
theorem byTo_c1_i {a : Arc} {v : Int} {w : World} {Q : Int → World → Prop} (hQ : ∀ w', Keep w w' → Q (cmp3 a.t v) w') : F_net_byTo_c1 (tupA a) v w Q := by
 unfold F_net_byTo_c1
 simp only [allocD]
 refine ld1_i (k := .int .i64) a.t ?_ (Compare_i (hQ _ (Keep.alloc w _)))
 rw [addr_lit, (Own.alloc' w _ _).cell]; rfl
theorem byFrom_c1_i {a : Arc} {v : Int} {w : World} {Q : Int → World → Prop} (hQ : ∀ w', Keep w w' → Q (cmp3 a.f v) w') : F_net_byFrom_c1 (tupA a) v w Q := by
 unfold F_net_byFrom_c1
 simp only [allocD]
 refine ld1_i (k := .int .i64) a.f ?_ (Compare_i (hQ _ (Keep.alloc w _)))
 rw [addr_lit, (Own.alloc' w _ _).cell]; rfl
theorem mid_i (i j : Nat) (h : i + j < 9223372036854775808) : IntKind.wrap .i64 (Int.fdiv (IntKind.wrap .u64 (IntKind.wrap .i64 ((i : Int) + (j : Int)))) (2 ^ (min (Int.toNat (1 : Int)) (IntKind.bits .u64)))) = (((i + j) / 2 : Nat) : Int) := by
 rw [w64 (n := (i : Int) + (j : Int)) (by omega) (by omega)]
 have h1 : IntKind.wrap .u64 ((i : Int) + (j : Int)) = ((i + j : Nat) : Int) := by simp [IntKind.wrap, IntKind.signed, IntKind.bits]; omega
 rw [h1]
 show IntKind.wrap .i64 (Int.fdiv ((i + j : Nat) : Int) 2) = _
 rw [Int.fdiv_eq_ediv_of_nonneg _ (by omega), w64 (by omega) (by omega)]
 omega
theorem rd_tup {w : World} {s : Sl} {xs : List Arc} (h : Rd w s 4 eArc xs) {i : Nat} {x : Arc} (hx : xs[i]? = some x) : ∃ a, s.b = some a ∧ HoldsAt w (a.add (i * 4)) 0 (encs [.int .i64, .int .i64, .int .i64, .int .i64] (tupA x)) := h.get i x hx
theorem BinarySearch_i {s : Sl} {xs : List Arc} {key : Arc → Int} {v : Int} {cmp : Value} {w : World} {Q : Int → Bool → World → Prop} (hs : Rd w s 4 eArc xs) (hsrt : Srt key xs) (hlen : xs.length < 4611686018427387904)
  (hcmp : ∀ (x : Arc) (w : World) (K : Value → World → Prop), (∀ w', Keep w w' → K (.int .i64 (cmp3 (key x) v)) w') → callV Tryz.prog cmp [arcV x, .int .i64 v] w K)
  (hQ : ∀ (i : Nat) (found : Bool) w', Keep w w' → IsLow key xs v i → (found = true ↔ ∃ x ∈ xs, key x = v) → Q (i : Int) found w') : F_slices_BinarySearchFunc_sArc_Arc_int s v cmp w Q := by
 unfold F_slices_BinarySearchFunc_sArc_Arc_int
 have hl := hs.len
 refine loop_i (fun n t w' => ∃ i j : Nat, i ≤ j ∧ j ≤ xs.length ∧ n = j - i ∧ t = ((i : Int), (j : Int), ()) ∧ Keep w w' ∧ (∀ p x, p < i → xs[p]? = some x → key x < v) ∧ (∀ p x, j ≤ p → xs[p]? = some x → v ≤ key x)) xs.length
  ⟨0, xs.length, by omega, by omega, by omega, by rw [hl]; rfl, Mod.refl _ _, fun p x hp => by omega, fun p x hp hx => by have := (List.getElem?_eq_some_iff.1 hx).1; omega⟩ ?_
 rintro n t w' ⟨i, j, hij, hj, rfl, rfl, hk, hlo, hhi⟩ X hX
 dsimp only
 have hs' := hs.mod hk eArc_ne (fun _ _ => id)
 refine cond_d (fun h => ?_) (fun h => ?_)
 ·have hlt : i < j := by omega
  rw [mid_i i j (by omega)]
  have hm : (i + j) / 2 < xs.length := by omega
  refine ⟨by omega, ⟨by omega, by omega⟩, ?_⟩
  obtain ⟨a, ha, hh⟩ := rd_tup hs' (List.getElem?_eq_getElem hm)
  refine onSome_i ha (ldN_i (tupA xs[(i + j) / 2]) hh ?_)
  refine hcmp xs[(i + j) / 2] w' _ fun w2 k2 => ⟨_, rfl, ?_⟩
  rw [w64 (n := (((i + j) / 2 : Nat) : Int) + 1) (by omega) (by omega)]
  unfold cmp3
  refine cond_d (fun h => ?_) (fun h => ?_)
  ·have hv : key xs[(i + j) / 2] < v := by
    apply Classical.byContradiction; intro hn; rw [if_neg hn] at h; split at h <;> omega
   refine hX (j - ((i + j) / 2 + 1)) _ _ (by omega) ⟨(i + j) / 2 + 1, j, by omega, hj, rfl, rfl, hk.tr k2, fun p x hp hx => ?_, hhi⟩
   rcases Nat.lt_or_ge p ((i + j) / 2) with h' | h'
   ·have := hsrt.get h' hx (List.getElem?_eq_getElem hm); omega
   ·have : p = (i + j) / 2 := by omega
    subst this; rw [List.getElem?_eq_getElem hm] at hx; cases hx; exact hv
  ·have hv : v ≤ key xs[(i + j) / 2] := by
    apply Classical.byContradiction; intro hn; rw [if_pos (by omega)] at h; omega
   refine hX ((i + j) / 2 - i) _ _ (by omega) ⟨i, (i + j) / 2, by omega, by omega, rfl, rfl, hk.tr k2, hlo, fun p x hp hx => ?_⟩
   rcases Nat.eq_or_lt_of_le hp with h' | h'
   ·subst h'; rw [List.getElem?_eq_getElem hm] at hx; cases hx; exact hv
   ·have := hsrt.get h' (List.getElem?_eq_getElem hm) hx; omega
 ·have hje : j = i := by omega
  subst hje
  have low : IsLow key xs v j := ⟨hj, hlo, hhi⟩
  refine cond_d (fun h => ?_) (fun h => ?_)
  ·have hi : j < xs.length := by omega
   refine ⟨⟨by omega, by omega⟩, ?_⟩
   obtain ⟨a, ha, hh⟩ := rd_tup hs' (List.getElem?_eq_getElem hi)
   refine onSome_i ha (ldN_i (tupA xs[j]) hh ?_)
   refine hcmp xs[j] w' _ fun w2 k2 => ⟨_, rfl, hQ j _ w2 (hk.tr k2) low ?_⟩
   have h1 := hhi j _ (Nat.le_refl _) (List.getElem?_eq_getElem hi)
   constructor
   ·intro hc
    refine ⟨xs[j], List.getElem_mem hi, ?_⟩
    unfold cmp3 at hc
    by_cases hg : key xs[j] > v
    ·rw [if_neg (by omega), if_pos hg] at hc; simp at hc
    ·omega
   ·rintro ⟨x, hx, hxk⟩
    have := low.found hsrt hx hxk
    rw [List.getElem?_eq_getElem hi] at this
    cases this
    unfold cmp3
    rw [if_neg (by omega), if_neg (by omega)]; rfl
  ·have hi : j = xs.length := by omega
   refine hQ j false w' hk low ⟨fun h => by simp at h, ?_⟩
   rintro ⟨x, hx, hxk⟩
   have := low.found hsrt hx hxk
   have := (List.getElem?_eq_some_iff.1 this).1
   omega
theorem byTo_i {s : Sl} {xs : List Arc} {v : Int} {w : World} {Q : Int → Bool → World → Prop} (hs : Rd w s 4 eArc xs) (hsrt : Srt Arc.t xs) (hlen : xs.length < 4611686018427387904)
  (hQ : ∀ (i : Nat) (found : Bool) w', Keep w w' → IsLow Arc.t xs v i → (found = true ↔ ∃ x ∈ xs, x.t = v) → Q (i : Int) found w') : F_net_byTo s v w Q :=
 BinarySearch_i hs hsrt hlen (fun x w K hK => callV_i S_net_byTo_c1 (by kernel_rfl) (decK_intro (ks := [.agg [.int .i64, .int .i64, .int .i64, .int .i64], .c (.int .i64)]) (t := (tupA x, v, ())) (byTo_c1_i hK))) hQ
theorem byFrom_i {s : Sl} {xs : List Arc} {v : Int} {w : World} {Q : Int → Bool → World → Prop} (hs : Rd w s 4 eArc xs) (hsrt : Srt Arc.f xs) (hlen : xs.length < 4611686018427387904)
  (hQ : ∀ (i : Nat) (found : Bool) w', Keep w w' → IsLow Arc.f xs v i → (found = true ↔ ∃ x ∈ xs, x.f = v) → Q (i : Int) found w') : F_net_byFrom s v w Q :=
 BinarySearch_i hs hsrt hlen (fun x w K hK => callV_i S_net_byFrom_c1 (by kernel_rfl) (decK_intro (ks := [.agg [.int .i64, .int .i64, .int .i64, .int .i64], .c (.int .i64)]) (t := (tupA x, v, ())) (byFrom_c1_i hK))) hQ
theorem len_flatA (xs : List Arc) : (xs.flatMap eArc).length = xs.length * 4 := length_flatMap_enc lenA xs
theorem one_flatA (xs : List Arc) : ∀ u ∈ xs.flatMap eArc, u.oneCell' = true := fun u hu => by obtain ⟨x, _, hx⟩ := List.mem_flatMap.1 hu; exact oneA x u hx
theorem take_at {V : Type} {l m : List V} {n : Nat} (h : l.length = n) : (l ++ m).take n = l := by rw [← h, List.take_left]
theorem drop_at {V : Type} {l m : List V} {n : Nat} (h : l.length = n) (k : Nat) : (l ++ m).drop (n + k) = m.drop k := by rw [← h, List.drop_length_add_append]
theorem drop_at0 {V : Type} {l m : List V} {n : Nat} (h : l.length = n) : (l ++ m).drop n = m := by rw [← h, List.drop_left]
theorem splice2 {V : Type} {A X2 cur : List V} {n1 n2 k : Nat} (hA : A.length = k) (hc : n1 + k ≤ cur.length) :
  ((cur.take n1 ++ A ++ cur.drop (n1 + k)).take (n1 + k) ++ X2 ++ (cur.take n1 ++ A ++ cur.drop (n1 + k)).drop (n1 + k + n2)) = cur.take n1 ++ A ++ X2 ++ cur.drop (n1 + k + n2) := by
 have hB : (cur.take n1 ++ A).length = n1 + k := by simp; omega
 rw [take_at hB, drop_at hB, List.drop_drop]
theorem splice_lists {V : Type} {X1 X2 R A cur : List V} {n1 n2 k : Nat} (h1 : X1.length = n1) (h2 : X2.length = n2) (hR : k ≤ R.length) (hc : cur = X1 ++ X2 ++ R) :
  ((cur.take (n1 + k) ++ X2 ++ cur.drop (n1 + k + n2)).take n1 ++ A ++ (cur.take (n1 + k) ++ X2 ++ cur.drop (n1 + k + n2)).drop (n1 + k)) = X1 ++ A ++ X2 ++ R.drop k := by
 have hcl : cur.length = n1 + n2 + R.length := by rw [hc]; simp [h1, h2]; omega
 have e0 : (cur.take (n1 + k)).length = n1 + k := by simp; omega
 have e3 : cur.drop (n1 + k + n2) = R.drop k := by
  have : (X1 ++ X2).length = n1 + n2 := by simp [h1, h2]
  rw [hc, show n1 + k + n2 = n1 + n2 + k by omega, drop_at this]
 have e4 : cur.take (n1 + k) = X1 ++ (X2 ++ R).take k := by
  rw [hc, List.append_assoc, ← h1, List.take_length_add_append]
 rw [e3]
 have e5 : (cur.take (n1 + k) ++ X2 ++ R.drop k).drop (n1 + k) = X2 ++ R.drop k := by rw [List.append_assoc, drop_at0 e0]
 rw [e5, e4, List.append_assoc, List.append_assoc, List.append_assoc, take_at h1]
 simp
theorem Insert_i {s : Sl} {xs : List Arc} {a : Arc} {i : Nat} {gv : Nat} {w : World} {Q : Sl → World → Prop} (hs : Vec w tArc 4 eArc s xs) (hv : Own w gv tArc (eArc a)) (hg : ∀ b, s.b = some b → b.block ≠ gv) (hi : i ≤ xs.length) (hb : xs.length < 1099511627776)
    (hQ : ∀ s' w', Vec w' tArc 4 eArc s' (xs.take i ++ [a] ++ xs.drop i) → Mod (fun k => ∃ b, s.b = some b ∧ k = b.block) w w' → (s'.b = s.b ∨ ∃ b, s'.b = some b ∧ w.heap.size ≤ b.block) → Q s' w') :
    F_slices_Insert_sArc_Arc s (i : Int) ⟨some ⟨gv, 0, none⟩, 1, 1⟩ w Q := by
  unfold F_slices_Insert_sArc_Arc
  have hl := hs.len
  have hcap := hs.cap
  have hmax := hs.max
  have rv : Rd w ⟨some ⟨gv, 0, none⟩, 1, 1⟩ 4 eArc [a] := (Vec.mk rfl (Nat.le_refl _) (by simp [maxLen]) (.inr ⟨gv, [], rfl, by simpa using hv, rfl⟩) : Vec w tArc 4 eArc ⟨some ⟨gv, 0, none⟩, 1, 1⟩ [a]).rd lenA
  refine ⟨⟨by omega, by omega⟩, ?_⟩
  refine cond_i (fun h => absurd h (by simp)) (fun _ => ?_)
  refine cond_i (fun h => ?_) (fun h => ?_)
  · have he : i = xs.length := by have : (i : Int) = (s.l : Int) := by simpa using h
                                  omega
    refine append_i elem_sArc lenA oneA hs rv (by simp; omega) (by simp; omega) fun r w' hr hm hrb _ => ?_
    exact hQ r w' (by rw [he, List.take_length, List.drop_length]; simpa using hr) hm hrb
  · have hlt : i < xs.length := by have : (i : Int) ≠ (s.l : Int) := by simpa using h
                                   omega
    have e1 : IntKind.wrap .i64 ((s.l : Int) + ((1 : Nat) : Int)) = ((xs.length + 1 : Nat) : Int) := by rw [w64 (by omega) (by omega)]; omega
    have e2 : IntKind.wrap .i64 ((i : Int) + ((1 : Nat) : Int)) = ((i + 1 : Nat) : Int) := by rw [w64 (by omega) (by omega)]; omega
    rw [e1, e2]
    have hrs := hs.rd lenA
    have hdl : ((xs.drop i).flatMap eArc).length = (xs.length - i) * 4 := by rw [len_flatA, List.length_drop]
    refine cond_d (fun hc => ?_) (fun hc => ?_)
    · -- a new block
      refine ⟨⟨by omega, by omega⟩, ?_⟩
      have e3 : IntKind.wrap .i64 (((xs.length + 1 : Nat) : Int) - (i : Int)) = ((xs.length + 1 - i : Nat) : Int) := by rw [w64 (by omega) (by omega)]; omega
      rw [e3]
      have hpart := hrs.part (i := 0) (j := i) (c := s.c) (by omega) (by omega) (by omega) (by omega)
      refine append_zeros elem_sArc und_int (enc := eArc) ⟨0, 0, 0, 0⟩ rfl lenA hpart (by simp; omega) (by simp; omega) (by simp; omega) fun s2 w2 hv2 k2 hfr => ?_
      have hl2 := hv2.len
      have hc2 := hv2.cap
      simp only [Nat.sub_zero, List.drop_zero, List.length_append, List.length_take, List.length_replicate] at hl2
      have hs2 : s2.l = xs.length + 1 := by omega
      obtain ⟨b2, hb2, hfr2⟩ := hfr
      rcases hv2.own with ⟨h0, _⟩ | ⟨g2, rest, hb2', ho2, hlen2⟩
      · rw [h0] at hb2; cases hb2
      rw [hb2'] at hb2; cases hb2
      have hfr3 : w.heap.size ≤ g2 := hfr2
      refine ⟨⟨by omega, by omega⟩, ?_⟩
      rw [hb2', sliceAddr_own (by show Int.toNat (i : Int) < s2.c; simp; omega)]
      simp only [Int.toNat_natCast]
      have hvo : Own w2 gv tArc (eArc a) := hv.mod k2 id
      refine copy_own (t := tsArc) elem_sArc.under size_Arc ho2 (cs := eArc a) (by rw [lenA]; omega) (hvo.read fun j v hj => by simpa using hj) (by rw [hlen2, lenA]; have := Nat.mul_le_mul_right 4 (show i + 1 ≤ s2.c by omega); omega) (oneA a) fun w3 ho3 m3 z3 => ?_
      refine ⟨⟨by omega, by omega⟩, ⟨by omega, by omega⟩, ?_⟩
      have hd3 : Keep w3 w3.drew := Mod.drew (Mod.refl _ w3)
      have hsrc : ∀ b, s.b = some b → ∀ j v, ((xs.drop i).flatMap eArc)[j]? = some v → w3.drew.cell? ((b.add (i * 4)).add j) = some v := by
        intro b hb j v hj
        have hp2 := hrs.part (i := i) (j := s.l) (c := s.c) (by omega) (by omega) (by omega) (by omega)
        rw [List.take_of_length_le (by simp; omega)] at hp2
        have hb' : sliceAddr s.b s.c i 4 = some (b.add (i * 4)) := by simp [sliceAddr, hb]; omega
        have hrd := firstCells_rd hp2 lenA (a := b.add (i * 4)) hb' j v hj
        have hblk : b.block < w.heap.size := hs.lt hb
        exact hd3.cell (m3.cell (k2.cell hrd id) (by simp; omega)) id
      obtain ⟨b, hb', _⟩ := hrs.get i xs[i] (List.getElem?_eq_getElem hlt)
      have hsb : sliceAddr s.b s.c i 4 = some (b.add (i * 4)) := by simp [sliceAddr, hb']; omega
      rw [sliceAddr_own (show i + 1 < s2.c by omega), hsb]
      refine copy_own (t := tsArc) elem_sArc.under size_Arc (ho3.mod hd3 id) (cs := (xs.drop i).flatMap eArc) (by rw [hdl]; congr 1; omega) (hsrc b hb') (by
        rw [hdl]; simp only [List.length_append, List.length_take, List.length_drop, hlen2, lenA]
        have := Nat.mul_le_mul_right 4 (show xs.length + 1 ≤ s2.c by omega); omega) (one_flatA _) fun w4 ho4 m4 z4 => ?_
      have hw4 : Keep w w4 := (k2.fresh m3 (fun k hk => by rw [hk]; exact hfr3)).fresh ((Keep.mod hd3 : Mod (fun k => k = g2) w3 _).tr m4) (fun k hk => by rw [hk]; exact hfr3)
      have h4 : s2.c * 4 ≥ (xs.length + 1) * 4 := Nat.mul_le_mul_right 4 (by omega)
      rw [show (i + 1) * 4 = i * 4 + 4 by omega, lenA, hdl, splice2 (lenA a) (by rw [hlen2]; omega)] at ho4
      have hX1 : (((xs.drop 0).take (i - 0) ++ List.replicate (xs.length + 1 - i) (⟨0, 0, 0, 0⟩ : Arc)).flatMap eArc ++ rest).take (i * 4) = (xs.take i).flatMap eArc := by
        rw [flat_take lenA _ _ _ (by simp; omega)]
        congr 1
        rw [List.take_append_of_le_length (by simp; omega)]
        simp [List.take_take]
      rw [hX1] at ho4
      refine hQ s2 w4 ⟨by rw [hs2]; simp; omega, hc2, hv2.max, .inr ⟨g2, (((xs.drop 0).take (i - 0) ++ List.replicate (xs.length + 1 - i) (⟨0, 0, 0, 0⟩ : Arc)).flatMap eArc ++ rest).drop (i * 4 + 4 + (xs.length - i) * 4), hb2', ?_, ?_⟩⟩ (Keep.mod hw4) (.inr ⟨_, hb2', hfr3⟩)
      · simpa [List.flatMap_append] using ho4
      · rw [List.length_append, len_flatA, List.length_drop, hlen2]
        simp only [List.length_append, List.length_take, List.length_drop, List.length_cons, List.length_nil]
        omega
    · -- in place
      have hsc : xs.length + 1 ≤ s.c := by omega
      rcases hs.own with ⟨_, h0⟩ | ⟨g, rest, hbg, ho, hlen⟩
      · omega
      have h4 : (xs.length + 1) * 4 ≤ s.c * 4 := Nat.mul_le_mul_right 4 hsc
      have hrest : 4 ≤ rest.length := by rw [List.length_append, len_flatA] at hlen; omega
      have hgv : gv ≠ g := fun h => hg _ hbg h.symm
      refine ⟨⟨by omega, by omega⟩, ⟨by omega, by omega⟩, ?_⟩
      rw [sliceAddr_zero, hbg]
      simp only [Int.toNat_natCast, Nat.sub_zero]
      rw [sliceAddr_own (by omega)]
      refine no_overlap_Arc hv ho hgv (by omega) ?_
      refine cond_i (fun _ => ?_) (fun h => by simp at h)
      refine ⟨⟨by omega, by omega⟩, ⟨by omega, by omega⟩, ?_⟩
      rw [sliceAddr_own (show i < s.c by omega)]
      have hd : Keep w w.drew := Mod.drew (Mod.refl _ w)
      have hX2 : ((xs.flatMap eArc ++ rest).drop (i * 4)) = (xs.drop i).flatMap eArc ++ rest := flat_drop lenA _ _ _ hi
      refine copy_own (t := tsArc) elem_sArc.under size_Arc (ho.mod hd id) (cs := (xs.drop i).flatMap eArc) (by rw [hdl]; congr 1; omega) ((ho.mod hd id).read fun j v hj => by
          have : ((xs.flatMap eArc ++ rest).drop (i * 4))[j]? = some v := by rw [hX2, List.getElem?_append_left (List.getElem?_eq_some_iff.1 hj).1]; exact hj
          rwa [List.getElem?_drop] at this) (by rw [hdl, hlen]; omega) (one_flatA _) fun w6 ho6 m6 z6 => ?_
      refine ⟨⟨by omega, by omega⟩, ?_⟩
      have hv6 : Own w6 gv tArc (eArc a) := (hv.mod hd id).mod m6 hgv
      refine copy_own (t := tsArc) elem_sArc.under size_Arc ho6 (cs := eArc a) (by rw [lenA, Nat.min_eq_left (by omega)]) (hv6.read fun j v hj => by simpa using hj) (by
        rw [lenA]; simp only [List.length_append, List.length_take, List.length_drop, hlen, hdl]; omega) (oneA a) fun w7 ho7 m7 z7 => ?_
      have hX1l : ((xs.take i).flatMap eArc).length = i * 4 := by rw [len_flatA, List.length_take, Nat.min_eq_left hi]
      have hcur : xs.flatMap eArc ++ rest = (xs.take i).flatMap eArc ++ (xs.drop i).flatMap eArc ++ rest := by rw [← List.flatMap_append, List.take_append_drop]
      rw [lenA, hdl, show (i + 1) * 4 = i * 4 + 4 by omega, splice_lists hX1l hdl hrest hcur] at ho7
      refine hQ ⟨some ⟨g, 0, none⟩, xs.length + 1, s.c⟩ w7 ⟨by simp; omega, hsc, hmax, .inr ⟨g, rest.drop 4, rfl, ?_, ?_⟩⟩ ?_ (.inl hbg.symm)
      · simpa [List.flatMap_append] using ho7
      · rw [List.length_append, len_flatA, List.length_drop]
        rw [List.length_append, len_flatA] at hlen
        simp only [List.length_append, List.length_take, List.length_drop, List.length_cons, List.length_nil]
        omega
      · exact (hd.mod.tr (m6.tr m7)).mono fun k _ hk => ⟨_, hbg, hk⟩
theorem Clone_i {s : Sl} {xs : List Arc} {w : World} {Q : Sl → World → Prop} (hs : Rd w s 4 eArc xs) (hb : xs.length < 1099511627776)
  (hQ : ∀ s' w', Vec w' tArc 4 eArc s' xs → Keep w w' → (∀ b, s'.b = some b → w.heap.size ≤ b.block) → Q s' w') : F_slices_Clone_sArc_Arc s w Q := by
 unfold F_slices_Clone_sArc_Arc
 refine cond_i (fun h => ?_) (fun h => ?_)
 ·have hn : xs = [] := by
   cases xs with
   | nil => rfl
   | cons x r => obtain ⟨a, ha, _⟩ := hs.get 0 x rfl; rw [ha] at h; cases h
  subst hn
  exact hQ _ w (Vec.nil _ _ _ _) (Mod.refl _ _) (fun b hb => by cases hb)
 ·simp only [allocD]
  have k1 := Keep.alloc w (.cells #[] 91)
  have v0 : Vec (w.alloc (.cells #[] 91)) tArc 4 eArc ⟨some ⟨w.heap.size, 0, none⟩, 0, 0⟩ [] := Vec.lit w tArc eArc lenA [] #[] rfl (by simp)
  refine append_i elem_sArc lenA oneA v0 (hs.mod k1 eArc_ne (fun _ _ => id)) (by simp; omega) (by simp; omega) fun r w' hr hm hrb _ => ?_
  refine hQ r w' (by simpa using hr) (Mod.fresh k1 hm fun k ⟨a, ha, hk⟩ => by cases ha; rw [hk]; exact Nat.le_refl _) fun b hb => ?_
  rcases hrb with h1 | ⟨b', hb', hlt⟩
  ·rw [hb] at h1; cases h1; exact Nat.le_refl _
  ·rw [hb] at hb'; cases hb'; have := k1.size; omega
theorem Delete_i {s : Sl} {xs : List Arc} {i : Nat} {w : World} {Q : Sl → World → Prop} (hs : Vec w tArc 4 eArc s xs) (hi : i < xs.length) (hb : xs.length < 1099511627776)
  (hQ : ∀ s' w', Vec w' tArc 4 eArc s' (xs.take i ++ xs.drop (i + 1)) → Mod (fun k => ∃ b, s.b = some b ∧ k = b.block) w w' → s'.b = s.b → Q s' w') :
  F_slices_Delete_sArc_Arc s (i : Int) ((i : Int) + 1) w Q := by
 unfold F_slices_Delete_sArc_Arc
 have hl := hs.len
 have hcap := hs.cap
 have hmax := hs.max
 rcases hs.own with ⟨_, h0⟩ | ⟨g, rest, hbg, ho, hlen⟩
 ·omega
 refine ⟨⟨by omega, by omega⟩, ⟨by omega, by simp; omega⟩, ⟨by omega, by omega⟩, ?_⟩
 refine cond_i (fun h => by simp at h; omega) (fun _ => ?_)
 refine ⟨⟨by omega, by omega⟩, ⟨by omega, by omega⟩, ?_⟩
 have hd : Keep w w.drew := Mod.drew (Mod.refl _ w)
 have ti : Int.toNat (i : Int) = i := rfl
 have tj : Int.toNat ((i : Int) + 1) = i + 1 := rfl
 rw [sliceAddr_zero, ti, tj, Nat.sub_zero, Nat.sub_zero]
 have hvd := hs.mod hd (fun _ _ => id)
 have hv1 := hvd.take (i := i) (by omega)
 have hr2 := (hvd.rd lenA).part (i := i + 1) (j := s.l) (c := s.c) (by omega) (by omega) (by omega) (by omega)
 rw [List.take_of_length_le (by simp; omega)] at hr2
 have hsum : (xs.take i).length + (xs.drop (i + 1)).length = xs.length - 1 := by simp; omega
 refine append_j elem_sArc lenA oneA hv1 hr2 (by rw [hsum]; omega) (by rw [hsum]; omega) fun r w1 hr hm hrb hrn hfit => ?_
 have hl1 := hr.len
 rw [List.length_append, hsum] at hl1
 have hc1 := hr.cap
 have tl : Int.toNat (s.l : Int) = s.l := rfl
 have tr : Int.toNat (r.l : Int) = r.l := rfl
 rw [tl, tr]
 obtain rfl := hfit (by rw [hsum]; show _ ≤ s.c; omega)
 have e1 : i + (s.l - (i + 1)) = xs.length - 1 := by omega
 simp only [e1] at hr hl1 hc1 tr ⊢
 refine ⟨⟨by omega, by omega⟩, ⟨by omega, by omega⟩, ?_⟩
 rw [hbg, sliceAddr_own (show xs.length - 1 < s.c by omega)]
 rcases hr.own with ⟨h0, _⟩ | ⟨g', rest', hbg', ho', hlen'⟩
 ·rw [hbg] at h0; cases h0
 have : g' = g := by rw [hbg] at hbg'; cases hbg'; rfl
 subst this
 have hfl : ((xs.take i ++ xs.drop (i + 1)).flatMap eArc).length = (xs.length - 1) * 4 := by rw [len_flatA, List.length_append, hsum]
 have hlen2 : ((xs.take i ++ xs.drop (i + 1)).flatMap eArc ++ rest').length = s.c * 4 := hlen'
 have h4 : xs.length * 4 ≤ s.c * 4 := Nat.mul_le_mul_right 4 (by omega)
 refine clear_own elem_sArc (by simp [Value.oneCell']) ho' (by rw [hlen2]; omega) fun w2 zs hz ho2 m2 _ => ?_
 have hsl : s.l - (xs.length - 1) = 1 := by omega
 rw [hsl] at hz ho2
 rw [take_at hfl] at ho2
 refine hQ _ w2 ⟨by rw [List.length_append, hsum], by show xs.length - 1 ≤ s.c; omega, hmax, .inr ⟨g', zs ++ ((xs.take i ++ xs.drop (i + 1)).flatMap eArc ++ rest').drop ((xs.length - 1) * 4 + 1 * 4), rfl, by simpa using ho2, ?_⟩⟩ ?_ hbg.symm
 ·show _ = s.c * 4
  simp only [List.length_append, hfl, List.length_drop, hz]
  rw [List.length_append, hfl] at hlen2
  omega
 ·exact ((Keep.mod hd).tr hm).tr (m2.mono fun k _ hk => ⟨_, hbg, hk⟩)
theorem laid_new_i {s : Sl} {xs : List Arc} {a : Arc} {i : Nat} {w : World} {Q : Sl → World → Prop} (hs : Vec w tArc 4 eArc s xs) (hi : i ≤ xs.length) (hb : xs.length < 1099511627776)
  (hQ : ∀ s' w', Vec w' tArc 4 eArc s' (xs.take i ++ [a] ++ xs.drop i) → Mod (fun k => ∃ b, s.b = some b ∧ k = b.block) w w' → (s'.b = s.b ∨ ∃ b, s'.b = some b ∧ w.heap.size ≤ b.block) → Q s' w') :
  F_net_laid s (i : Int) false (tupA a) w Q := by
 unfold F_net_laid
 simp only [allocD]
 have k1 := Keep.alloc w (.cells #[Value.int .i64 a.f, Value.int .i64 a.t, Value.int .i64 a.w, Value.int .i64 a.m] 91)
 refine cond_i (fun _ => ?_) (fun h => by simp at h)
 refine ldN_i (tupA a) (holds_alloc w _ _) ?_
 generalize hw1 : w.alloc (.cells #[Value.int .i64 a.f, Value.int .i64 a.t, Value.int .i64 a.w, Value.int .i64 a.m] 91) = w1 at k1 ⊢
 have k2 := Keep.alloc w1 (.cells #[Value.int .i64 a.f, Value.int .i64 a.t, Value.int .i64 a.w, Value.int .i64 a.m] 91)
 refine Insert_i ((hs.mod k1 (fun _ _ => id)).mod k2 (fun _ _ => id)) (Own.alloc' w1 #[Value.int .i64 a.f, Value.int .i64 a.t, Value.int .i64 a.w, Value.int .i64 a.m] 91) (fun b hb' => ?_) hi hb fun s' w' h1 h2 h3 => ?_
 ·exact Nat.ne_of_lt ((hs.mod k1 (fun _ _ => id)).lt hb')
 ·refine hQ s' w' h1 (((Keep.mod k1).tr (Keep.mod k2)).tr h2) (h3.imp id fun ⟨b, hb', hlt⟩ => ⟨b, hb', ?_⟩)
  exact Nat.le_trans (Nat.le_trans k1.size k2.size) hlt
theorem laid_at_i {s : Sl} {xs : List Arc} {a : Arc} {i : Nat} {w : World} {Q : Sl → World → Prop} (hs : Vec w tArc 4 eArc s xs) (hi : i < xs.length)
  (hQ : ∀ w', Vec w' tArc 4 eArc s (xs.set i a) → Mod (fun k => ∃ b, s.b = some b ∧ k = b.block) w w' → Q s w') : F_net_laid s (i : Int) true (tupA a) w Q := by
 unfold F_net_laid
 simp only [allocD]
 have k1 := Keep.alloc w (.cells #[Value.int .i64 a.f, Value.int .i64 a.t, Value.int .i64 a.w, Value.int .i64 a.m] 91)
 refine cond_i (fun h => by simp at h) (fun _ => ?_)
 refine ldN_i (tupA a) (holds_alloc w _ _) ?_
 have hl := hs.len
 have hs1 := hs.mod k1 (fun _ _ => id)
 obtain ⟨b, hb, _⟩ := (hs.rd lenA).get i xs[i] (List.getElem?_eq_getElem hi)
 refine ⟨⟨by omega, by omega⟩, onSome_i hb ?_⟩
 refine hs1.store lenA hb hi a rfl size_Arc (oneA a) fun w' h1 h2 _ => hQ w' h1 ((Keep.mod k1).tr (h2.mono fun k _ hk => ⟨b, hb, hk⟩))
end Go.Proofs.YtjjgcimlmjnaeaaGreat

namespace Go.Proofs.YtjjgcimlmjnaeaaGreat
open Go Go.Den
abbrev sv (s : Sl) : Value := .slice s.b s.l s.c
structure NetS where
 g : Nat
 go : Nat
 gi : Nat
 rows : List Sl
def NetS.has (N : NetS) (k : Nat) : Prop := k = N.g ∨ k = N.go ∨ k = N.gi ∨ ∃ (i : Nat) (s : Sl) (a : Addr), N.rows[i]? = some s ∧ s.b = some a ∧ a.block = k
def NetS.ptr (N : NetS) : Addr := ⟨N.g, 0, none⟩
structure NetAt (w : World) (N : NetS) (n : Nat) (X : Nat → List Arc) : Prop where
 head : Own w N.g tNet [sv ⟨some ⟨N.go, 0, none⟩, n, n⟩, sv ⟨some ⟨N.gi, 0, none⟩, n, n⟩]
 outs : Own w N.go tsArc ((N.rows.take n).map sv)
 ins : Own w N.gi tsArc ((N.rows.drop n).map sv)
 len : N.rows.length = n + n
 row : ∀ (i : Nat) (s : Sl), N.rows[i]? = some s → Vec w tArc 4 eArc s (X i)
 sep : ∀ (i : Nat) (s : Sl) (a : Addr), N.rows[i]? = some s → s.b = some a → a.block ≠ N.g ∧ a.block ≠ N.go ∧ a.block ≠ N.gi
 dis : ∀ (i j : Nat) (s u : Sl) (a b : Addr), N.rows[i]? = some s → N.rows[j]? = some u → s.b = some a → u.b = some b → a.block = b.block → i = j
 hd : N.g ≠ N.go ∧ N.g ≠ N.gi ∧ N.go ≠ N.gi
section
variable {w w' : World} {N : NetS} {n : Nat} {X : Nat → List Arc}
theorem NetAt.lt (h : NetAt w N n X) {k : Nat} (hk : N.has k) : k < w.heap.size := by
 rcases hk with rfl | rfl | rfl | ⟨i, s, a, h1, h2, rfl⟩
 ·exact h.head.lt
 ·exact h.outs.lt
 ·exact h.ins.lt
 ·exact (h.row i s h1).lt h2
theorem NetAt.mod {F : Nat → Prop} (h : NetAt w N n X) (hm : Mod F w w') (hF : ∀ k, N.has k → ¬ F k) : NetAt w' N n X where
 head := h.head.mod hm (hF _ (.inl rfl))
 outs := h.outs.mod hm (hF _ (.inr (.inl rfl)))
 ins := h.ins.mod hm (hF _ (.inr (.inr (.inl rfl))))
 len := h.len
 row := fun i s hs => (h.row i s hs).mod hm fun a ha => hF _ (.inr (.inr (.inr ⟨i, s, a, hs, ha, rfl⟩)))
 sep := h.sep
 dis := h.dis
 hd := h.hd
theorem NetAt.keep (h : NetAt w N n X) (hm : Keep w w') : NetAt w' N n X := h.mod hm fun _ _ => id
theorem NetAt.c0 (h : NetAt w N n X) : w.cell? ((⟨N.g, 0, none⟩ : Addr).add 0) = some (sv ⟨some ⟨N.go, 0, none⟩, n, n⟩) := by rw [addr_lit, h.head.cell]; rfl
theorem NetAt.c1 (h : NetAt w N n X) : w.cell? ((⟨N.g, 0, none⟩ : Addr).add 1) = some (sv ⟨some ⟨N.gi, 0, none⟩, n, n⟩) := by rw [addr_lit, h.head.cell]; rfl
theorem NetAt.out (h : NetAt w N n X) {v : Nat} (hv : v < n) : ∃ s, N.rows[v]? = some s ∧ w.cell? ((⟨N.go, 0, none⟩ : Addr).add (v * 1)) = some (sv s) := by
 have hl := h.len
 refine ⟨N.rows[v], List.getElem?_eq_getElem (by omega), ?_⟩
 rw [addr_lit, h.outs.cell]
 simp [List.getElem?_take_of_lt hv, List.getElem?_eq_getElem (show v < N.rows.length by omega)]
theorem NetAt.inn (h : NetAt w N n X) {v : Nat} (hv : v < n) : ∃ s, N.rows[n + v]? = some s ∧ w.cell? ((⟨N.gi, 0, none⟩ : Addr).add (v * 1)) = some (sv s) := by
 have hl := h.len
 refine ⟨N.rows[n + v], List.getElem?_eq_getElem (by omega), ?_⟩
 rw [addr_lit, h.ins.cell]
 simp [List.getElem?_drop, List.getElem?_eq_getElem (show n + v < N.rows.length by omega)]
theorem NetAt.upd (h : NetAt w N n X) {i : Nat} {s s' : Sl} {xs : List Arc} (hs : N.rows[i]? = some s) (hv : Vec w' tArc 4 eArc s' xs) (ho : Own w' N.go tsArc (((N.rows.set i s').take n).map sv)) (hi : Own w' N.gi tsArc (((N.rows.set i s').drop n).map sv))
  (hm : Mod (fun k => (∃ a, s.b = some a ∧ k = a.block) ∨ k = N.go ∨ k = N.gi) w w') (hb : ∀ a, s'.b = some a → s'.b = s.b ∨ w.heap.size ≤ a.block) :
  NetAt w' { N with rows := N.rows.set i s' } n (fun j => if j = i then xs else X j) := by
 have hil : i < N.rows.length := (List.getElem?_eq_some_iff.1 hs).1
 have old : ∀ j u, (N.rows.set i s')[j]? = some u → (j = i ∧ u = s') ∨ (j ≠ i ∧ N.rows[j]? = some u) := by
  intro j u hj
  rw [List.getElem?_set] at hj
  by_cases hji : i = j
  ·subst hji; simp [hil] at hj; exact .inl ⟨rfl, hj.symm⟩
  ·rw [if_neg hji] at hj; exact .inr ⟨fun h => hji h.symm, hj⟩
 have hnew : ∀ a, s'.b = some a → (s.b = some a) ∨ (∀ k, N.has k → k ≠ a.block) := by
  intro a ha
  rcases hb a ha with h1 | h1
  ·exact .inl (h1 ▸ ha)
  ·exact .inr fun k hk => by have := h.lt hk; omega
 constructor
 ·refine h.head.mod hm ?_
  rintro (⟨a, ha, hk⟩ | hk | hk)
  ·exact (h.sep i s a hs ha).1 hk.symm
  ·exact h.hd.1 hk
  ·exact h.hd.2.1 hk
 ·exact ho
 ·exact hi
 ·simpa using h.len
 ·intro j u hj
  rcases old j u hj with ⟨rfl, rfl⟩ | ⟨hne, hj'⟩
  ·simpa using hv
  ·simp only [hne, if_false]
   refine (h.row j u hj').mod hm fun b hb' => ?_
   rintro (⟨a, ha, hk⟩ | hk | hk)
   ·exact hne (h.dis j i u s b a hj' hs hb' ha hk)
   ·exact (h.sep j u b hj' hb').2.1 hk
   ·exact (h.sep j u b hj' hb').2.2 hk
 ·intro j u a hj ha
  rcases old j u hj with ⟨rfl, rfl⟩ | ⟨hne, hj'⟩
  ·rcases hnew a ha with h1 | h1
   ·exact h.sep j s a hs h1
   ·exact ⟨fun e => h1 _ (.inl rfl) e.symm, fun e => h1 _ (.inr (.inl rfl)) e.symm, fun e => h1 _ (.inr (.inr (.inl rfl))) e.symm⟩
  ·exact h.sep j u a hj' ha
 ·intro j k u x a b hj hk ha hb' he
  rcases old j u hj with ⟨rfl, rfl⟩ | ⟨hne, hj'⟩ <;> rcases old k x hk with ⟨rfl, rfl⟩ | ⟨hne', hk'⟩
  ·rfl
  ·rcases hnew a ha with h1 | h1
   ·exact h.dis j k s x a b hs hk' h1 hb' he
   ·exact absurd he.symm (h1 _ (.inr (.inr (.inr ⟨k, x, b, hk', hb', rfl⟩))))
  ·rcases hnew b hb' with h1 | h1
   ·exact h.dis j k u s a b hj' hs ha h1 he
   ·exact absurd he (h1 _ (.inr (.inr (.inr ⟨j, u, a, hj', ha, rfl⟩))))
  ·exact h.dis j k u x a b hj' hk' ha hb' he
 ·exact h.hd
theorem NetS.has_set {i : Nat} {s s' : Sl} {P : Nat → Prop} (hs : N.rows[i]? = some s) (hb : ∀ a, s'.b = some a → s'.b = s.b ∨ P a.block) {k : Nat} (hk : ({ N with rows := N.rows.set i s' } : NetS).has k) : N.has k ∨ P k := by
 have hil : i < N.rows.length := (List.getElem?_eq_some_iff.1 hs).1
 rcases hk with hk | hk | hk | ⟨j, u, a, hj, ha, rfl⟩
 ·exact .inl (.inl hk)
 ·exact .inl (.inr (.inl hk))
 ·exact .inl (.inr (.inr (.inl hk)))
 ·simp only [List.getElem?_set] at hj
  by_cases hji : i = j
  ·subst hji
   simp [hil] at hj
   subst hj
   rcases hb a ha with h1 | h1
   ·exact .inl (.inr (.inr (.inr ⟨i, s, a, hs, h1 ▸ ha, rfl⟩)))
   ·exact .inr h1
  ·rw [if_neg hji] at hj
   exact .inl (.inr (.inr (.inr ⟨j, u, a, hj, ha, rfl⟩)))
theorem NetAt.putOut (h : NetAt w N n X) {v : Nat} (hv : v < n) {s s' : Sl} {xs : List Arc} (hs : N.rows[v]? = some s) (hvec : Vec w' tArc 4 eArc s' xs) (hm : Mod (fun k => ∃ a, s.b = some a ∧ k = a.block) w w') (hb : s'.b = s.b ∨ (∀ a, s'.b = some a → w.heap.size ≤ a.block))
  {K : World → Prop} (hK : ∀ w2, NetAt w2 { N with rows := N.rows.set v s' } n (fun j => if j = v then xs else X j) → Mod N.has w w2 → w2.heap.size = w'.heap.size → K w2) : storeD Tryz.prog tsArc ((⟨N.go, 0, none⟩ : Addr).add (v * 1)) (sv s') w' K := by
 have hl := h.len
 have hb' : ∀ a, s'.b = some a → s'.b = s.b ∨ w.heap.size ≤ a.block := fun a ha => hb.imp id fun h => h a ha
 have hns : ∀ k, (∃ a, s.b = some a ∧ k = a.block) → k ≠ N.go ∧ k ≠ N.gi := fun k ⟨a, ha, hk⟩ => by have := h.sep v s a hs ha; rw [hk]; exact this.2
 have ho := h.outs.mod hm fun hk => (hns _ hk).1 rfl
 have hi := h.ins.mod hm fun hk => (hns _ hk).2 rfl
 rw [addr_lit, Nat.zero_add, Nat.mul_one]
 refine storeD1_i ho size_sArc (by simp; omega) rfl rfl fun w2 ho2 hm2 hz => ?_
 have hall : Mod (fun k => (∃ a, s.b = some a ∧ k = a.block) ∨ k = N.go ∨ k = N.gi) w w2 := (hm.mono fun _ _ h => .inl h).tr (hm2.mono fun _ _ h => .inr (.inl h))
 refine hK w2 (h.upd hs (hvec.mod hm2 fun a ha he => ?_) ?_ ?_ hall hb') (hall.mono fun k _ hk => ?_) hz
 ·rcases hb' a ha with h1 | h1
  ·exact (h.sep v s a hs (h1 ▸ ha)).2.1 he
  ·have := h.outs.lt; omega
 ·rw [← List.map_set, ← List.take_set] at ho2; exact ho2
 ·rw [List.drop_set_of_lt (by omega)]; exact hi.mod hm2 fun e => h.hd.2.2 e.symm
 ·rcases hk with ⟨a, ha, hk⟩ | hk | hk
  ·exact .inr (.inr (.inr ⟨v, s, a, hs, ha, hk.symm⟩))
  ·exact .inr (.inl hk)
  ·exact .inr (.inr (.inl hk))
theorem NetAt.putIn (h : NetAt w N n X) {v : Nat} (hv : v < n) {s s' : Sl} {xs : List Arc} (hs : N.rows[n + v]? = some s) (hvec : Vec w' tArc 4 eArc s' xs) (hm : Mod (fun k => ∃ a, s.b = some a ∧ k = a.block) w w') (hb : s'.b = s.b ∨ (∀ a, s'.b = some a → w.heap.size ≤ a.block))
  {K : World → Prop} (hK : ∀ w2, NetAt w2 { N with rows := N.rows.set (n + v) s' } n (fun j => if j = n + v then xs else X j) → Mod N.has w w2 → w2.heap.size = w'.heap.size → K w2) : storeD Tryz.prog tsArc ((⟨N.gi, 0, none⟩ : Addr).add (v * 1)) (sv s') w' K := by
 have hl := h.len
 have hb' : ∀ a, s'.b = some a → s'.b = s.b ∨ w.heap.size ≤ a.block := fun a ha => hb.imp id fun h => h a ha
 have hns : ∀ k, (∃ a, s.b = some a ∧ k = a.block) → k ≠ N.go ∧ k ≠ N.gi := fun k ⟨a, ha, hk⟩ => by have := h.sep (n + v) s a hs ha; rw [hk]; exact this.2
 have ho := h.outs.mod hm fun hk => (hns _ hk).1 rfl
 have hi := h.ins.mod hm fun hk => (hns _ hk).2 rfl
 rw [addr_lit, Nat.zero_add, Nat.mul_one]
 refine storeD1_i hi size_sArc (by simp; omega) rfl rfl fun w2 ho2 hm2 hz => ?_
 have hall : Mod (fun k => (∃ a, s.b = some a ∧ k = a.block) ∨ k = N.go ∨ k = N.gi) w w2 := (hm.mono fun _ _ h => .inl h).tr (hm2.mono fun _ _ h => .inr (.inr h))
 refine hK w2 (h.upd hs (hvec.mod hm2 fun a ha he => ?_) ?_ ?_ hall hb') (hall.mono fun k _ hk => ?_) hz
 ·rcases hb' a ha with h1 | h1
  ·exact (h.sep (n + v) s a hs (h1 ▸ ha)).2.2 he
  ·have := h.ins.lt; omega
 ·rw [List.take_set_of_le (by omega)]; exact ho.mod hm2 h.hd.2.2
 ·rw [← List.map_set] at ho2
  have : (N.rows.drop n).set v s' = (N.rows.set (n + v) s').drop n := by rw [List.drop_set]; simp; omega
  rwa [this] at ho2
 ·rcases hk with ⟨a, ha, hk⟩ | hk | hk
  ·exact .inr (.inr (.inr ⟨n + v, s, a, hs, ha, hk.symm⟩))
  ·exact .inr (.inl hk)
  ·exact .inr (.inr (.inl hk))
end
theorem isV_i {x : Int} {n : Nat} {b : Nat} {w : World} {K : Value → World → Prop} (hn : Own w b tInt [.int .i64 (n : Int)]) (hK : ∀ r : Bool, (r = true ↔ 0 ≤ x ∧ x < n) → K (.bool r) w) :
  callV Tryz.prog (.func (.func fn_nN_may_c1) #[] #[.pointer (some ⟨b, 0, none⟩)]) [.int .i64 x] w K := by
 refine callV_i S_nN_may_c1 (by kernel_rfl) (decK_intro (ks := [.c (.int .i64), .c .ptr]) (t := (x, some ⟨b, 0, none⟩, ())) ?_)
 show F_nN_may_c1 x (some ⟨b, 0, none⟩) w fun r w' => K (.bool r) w'
 unfold F_nN_may_c1
 refine cond_d (fun h => ?_) (fun h => ?_)
 ·refine onSome_i rfl (ld1_i (k := .int .i64) (n : Int) (by rw [hn.cell]; rfl) (hK _ ?_))
  simp; omega
 ·exact hK false (by simp; omega)
theorem may_i {g n : Nat} {si : Value} {o1 : Option Addr} {c1 : Nat} {a : Arc} {w : World} {Q : Bool → World → Prop} (hh : Own w g tNet [.slice o1 n c1, si]) (hQ : ∀ w' (r : Bool), Keep w w' → (r = true ↔ mayA n a) → Q r w') :
  F_nN_may (some ⟨g, 0, none⟩) (tupA a) w Q := by
 unfold F_nN_may
 simp only [allocD]
 have k1 := Keep.alloc w (.cells #[Value.int .i64 a.f, Value.int .i64 a.t, Value.int .i64 a.w, Value.int .i64 a.m] 91)
 have o1' : Own (w.alloc (.cells #[Value.int .i64 a.f, Value.int .i64 a.t, Value.int .i64 a.w, Value.int .i64 a.m] 91)) w.heap.size 91 (eArc a) := Own.alloc' w _ 91
 generalize hw1 : w.alloc (.cells #[Value.int .i64 a.f, Value.int .i64 a.t, Value.int .i64 a.w, Value.int .i64 a.m] 91) = w1 at *
 generalize hb1 : w.heap.size = b1 at *
 refine onSome_i rfl (ld1_i (k := .slice) ⟨o1, n, c1⟩ (by rw [addr_lit, (hh.mod k1 id).cell]; rfl) ?_)
 have k2 := Keep.alloc w1 (.cells #[Value.int .i64 0] 3)
 have o2 := Own.alloc' w1 #[Value.int .i64 0] 3
 have hlt : b1 < w1.heap.size := o1'.lt
 have o1'' := o1'.mod k2 id
 generalize w1.alloc (.cells #[Value.int .i64 0] 3) = w2 at *
 generalize hb2 : w1.heap.size = b2 at *
 refine storeD1_i o2 size_Int (by simp) rfl rfl fun w3 o3 m3 _ => ?_
 have oa := o1''.mod m3 (by omega)
 have on : Own w3 b2 tInt [.int .i64 (n : Int)] := o3
 have hk : Keep w w3 := Mod.fresh (k1.tr k2) m3 fun k hk => by omega
 have l0 : w3.cell? ((⟨b1, 0, none⟩ : Addr).add 0) = some (.int .i64 a.f) := by rw [addr_lit, oa.cell]; rfl
 have l1 : w3.cell? ((⟨b1, 0, none⟩ : Addr).add 1) = some (.int .i64 a.t) := by rw [addr_lit, oa.cell]; rfl
 have l2 : w3.cell? ((⟨b1, 0, none⟩ : Addr).add 2) = some (.int .i64 a.w) := by rw [addr_lit, oa.cell]; rfl
 have l3 : w3.cell? ((⟨b1, 0, none⟩ : Addr).add 3) = some (.int .i64 a.m) := by rw [addr_lit, oa.cell]; rfl
 intro J hJ
 have no : ¬ mayA n a → Q false w3 := fun h => hQ w3 false hk ⟨fun h => by simp at h, fun h' => absurd h' h⟩
 have hJ' : ∀ mid : Bool, (mid = true ↔ (a.m = -1 ∨ (0 ≤ a.m ∧ a.m < n ∧ a.m ≠ a.f ∧ a.m ≠ a.t))) → J (mid, ()) w3 := by
  intro mid hmid
  apply hJ
  refine ld1_i (k := .int .i64) a.f l0 ?_
  refine isV_i on fun r hr => ⟨r, rfl, ?_⟩
  refine cond_i (fun h => ?_) (fun h => no fun hm => ?_)
  ·have h1 := hr.1 h
   refine ld1_i (k := .int .i64) a.t l1 ?_
   refine isV_i on fun r' hr' => ⟨r', rfl, ?_⟩
   refine cond_i (fun h => ?_) (fun h => no fun hm => ?_)
   ·have h2 := hr'.1 h
    refine ld1_i (k := .int .i64) a.f l0 (ld1_i (k := .int .i64) a.t l1 ?_)
    refine cond_i (fun h => ?_) (fun h => no fun hm => ?_)
    ·have h3 : a.f ≠ a.t := by simpa using h
     refine ld1_i (k := .int .i64) a.w l2 ?_
     refine cond_d (fun h4 => ?_) (fun h => no fun hm => ?_)
     ·refine ld1_i (k := .int .i64) a.w l2 ?_
      refine cond_d (fun h5 => ?_) (fun h => no fun hm => ?_)
      ·refine hQ w3 mid hk ?_
       rw [hmid]
       exact ⟨fun h => ⟨h1.1, h1.2, h2.1, h2.2, h3, h4, h5, h⟩, fun h => h.2.2.2.2.2.2.2⟩
      ·exact h hm.2.2.2.2.2.2.1
     ·exact h hm.2.2.2.2.2.1
    ·have : a.f = a.t := by simpa using h
     exact hm.2.2.2.2.1 this
   ·rw [hr'.2 ⟨hm.2.2.1, hm.2.2.2.1⟩] at h; cases h
  ·rw [hr.2 ⟨hm.1, hm.2.1⟩] at h; cases h
 refine ld1_i (k := .int .i64) a.m l3 ?_
 refine cond_i (fun h => hJ' true ⟨fun _ => .inl (by simpa using h), fun _ => rfl⟩) (fun h => ?_)
 have hm1 : a.m ≠ -1 := by simpa using h
 refine ld1_i (k := .int .i64) a.m l3 ?_
 refine isV_i on fun r hr => ⟨r, rfl, ?_⟩
 refine cond_i (fun h => ?_) (fun h => hJ' false ⟨fun h => by simp at h, fun h' => ?_⟩)
 ·have h1 := hr.1 h
  refine ld1_i (k := .int .i64) a.m l3 (ld1_i (k := .int .i64) a.f l0 ?_)
  refine cond_i (fun h => ?_) (fun h => hJ' false ⟨fun h => by simp at h, fun h' => ?_⟩)
  ·have h2 : a.m ≠ a.f := by simpa using h
   refine ld1_i (k := .int .i64) a.m l3 (ld1_i (k := .int .i64) a.t l1 (hJ' _ ?_))
   constructor
   ·intro h; exact .inr ⟨h1.1, h1.2, h2, by simpa using h⟩
   ·rintro (h | h)
    ·exact absurd h hm1
    ·simpa using h.2.2.2
  ·have h2 : a.m = a.f := by simpa using h
   rcases h' with h' | h'
   ·exact absurd h' hm1
   ·exact absurd h2 h'.2.2.1
 ·rcases h' with h' | h'
  ·exact absurd h' hm1
  ·rw [hr.2 ⟨h'.1, h'.2.1⟩] at h; cases h
def rowsOf (n : Nat) (l : List Arc) (i : Nat) : List Arc := if i < n then outL l (i : Int) else inL l ((i : Int) - n)
structure NetIs (w : World) (N : NetS) (n : Nat) (l : List Arc) : Prop where
 at_ : NetAt w N n (rowsOf n l)
 ok : OkL n l
 sz : n ≤ 512
theorem NetIs.keep {w w' : World} {N : NetS} {n : Nat} {l : List Arc} (h : NetIs w N n l) (k : Keep w w') : NetIs w' N n l := ⟨h.at_.keep k, h.ok, h.sz⟩
theorem NetIs.mod {F : Nat → Prop} {w w' : World} {N : NetS} {n : Nat} {l : List Arc} (h : NetIs w N n l) (k : Mod F w w') (hF : ∀ k, N.has k → ¬ F k) : NetIs w' N n l := ⟨h.at_.mod k hF, h.ok, h.sz⟩
end Go.Proofs.YtjjgcimlmjnaeaaGreat

namespace Go.Proofs.YtjjgcimlmjnaeaaGreat
open Go Go.Den
abbrev eIt (x : It) : List Value := [.int .i64 x.id, .int .i64 x.key]
abbrev itV (x : It) : Value := .agg #[.int .i64 x.id, .int .i64 x.key]
abbrev tupI (x : It) : Int × Int × Unit := (x.id, x.key, ())
theorem lenIt : ∀ x : It, (eIt x).length = 2 := fun _ => rfl
theorem oneIt : ∀ x : It, ∀ u ∈ eIt x, u.oneCell' = true := by intro x u hu; simp at hu; rcases hu with rfl | rfl <;> rfl
abbrev ekI : Int → Value := fun n => .int .i64 n
abbrev knI : Knd := .c (.int .i64)
theorem par {i : Nat} (h0 : 0 < i) (h1 : i < 4611686018427387904) : IntKind.wrap .i64 (Int.tdiv (IntKind.wrap .i64 ((i : Int) - 1)) 2) = (((i - 1) / 2 : Nat) : Int) := by
 rw [w64 (n := (i : Int) - 1) (by omega) (by omega)]
 have e : ((i : Int) - 1) = ((i - 1 : Nat) : Int) := by omega
 have e2 : Int.tdiv ((i - 1 : Nat) : Int) 2 = (((i - 1) / 2 : Nat) : Int) := by
  rw [Int.tdiv_eq_ediv_of_nonneg (by omega)]; omega
 rw [e, e2, w64 (by omega) (by omega)]
theorem item_store {w : World} {g : Nat} {cs : List Value} {x : It} {K : World → Prop} (h : Own w g tItem cs) (hl : cs.length = 2) (hK : ∀ w', Own w' g tItem (eIt x) → Mod (fun k => k = g) w w' → K w') :
  storeD Tryz.prog tItem ⟨g, 0, none⟩ (itV x) w K := by
 refine storeD_i h size_Item (by simp [Value.cells, hl]) (by simp [Value.cells, Value.oneCell']) fun w' ho hm _ => hK w' ?_ hm
 have : cs.take 0 ++ (itV x).cells.toList ++ cs.drop (0 + (itV x).cells.size) = eIt x := by
  simp [Value.cells, List.drop_of_length_le (show cs.length ≤ 2 by omega)]
 rwa [this] at ho
theorem own_it {w : World} {g : Nat} {x : It} (h : Own w g tItem (eIt x)) : HoldsAt w ⟨g, 0, none⟩ 0 (encs [.int .i64, .int .i64] (tupI x)) := h.holds fun j v hj => by rw [Nat.zero_add]; exact hj
theorem rd_it {w : World} {s : Sl} {xs : List It} (h : Rd w s 2 eIt xs) {i : Nat} {x : It} (hx : xs[i]? = some x) : ∃ a, s.b = some a ∧ HoldsAt w (a.add (i * 2)) 0 (encs [.int .i64, .int .i64] (tupI x)) := h.get i x hx
theorem ahead_i {x y : It} {w : World} {Q : Bool → World → Prop} (hQ : ∀ w', Keep w w' → Q (itlt x y) w') : F_heap_item_ahead (tupI x) (tupI y) w Q := by
 unfold F_heap_item_ahead
 simp only [allocD]
 have o1 : Own (w.alloc (.cells #[.int .i64 x.id, .int .i64 x.key] tItem)) w.heap.size tItem (eIt x) := Own.alloc' w _ _
 have k1 := Keep.alloc w (.cells #[.int .i64 x.id, .int .i64 x.key] tItem)
 have hs1 : (w.alloc (.cells #[.int .i64 x.id, .int .i64 x.key] tItem)).heap.size = w.heap.size + 1 := by simp
 generalize w.alloc (.cells #[.int .i64 x.id, .int .i64 x.key] 200) = w1 at *
 have o2 : Own (w1.alloc (.cells #[.int .i64 y.id, .int .i64 y.key] tItem)) w1.heap.size tItem (eIt y) := Own.alloc' w1 _ _
 have k2 := Keep.alloc w1 (.cells #[.int .i64 y.id, .int .i64 y.key] tItem)
 have o1' := o1.mod k2 id
 generalize w1.alloc (.cells #[.int .i64 y.id, .int .i64 y.key] 200) = w2 at *
 have x0 : w2.cell? ((⟨w.heap.size, 0, none⟩ : Addr).add 0) = some (.int .i64 x.id) := by rw [addr_lit, o1'.cell]; rfl
 have x1 : w2.cell? ((⟨w.heap.size, 0, none⟩ : Addr).add 1) = some (.int .i64 x.key) := by rw [addr_lit, o1'.cell]; rfl
 have y0 : w2.cell? ((⟨w1.heap.size, 0, none⟩ : Addr).add 0) = some (.int .i64 y.id) := by rw [addr_lit, o2.cell]; rfl
 have y1 : w2.cell? ((⟨w1.heap.size, 0, none⟩ : Addr).add 1) = some (.int .i64 y.key) := by rw [addr_lit, o2.cell]; rfl
 have hk := k1.tr k2
 refine ld1_i (k := .int .i64) x.key x1 (ld1_i (k := .int .i64) y.key y1 ?_)
 refine cond_d (fun h => ?_) (fun h => ?_)
 ·have : itlt x y = true := itlt_iff.2 (.inl h)
  rw [← this]; exact hQ w2 hk
 ·refine ld1_i (k := .int .i64) x.key x1 (ld1_i (k := .int .i64) y.key y1 ?_)
  refine cond_i (fun he => ?_) (fun he => ?_)
  ·have he' : x.key = y.key := by simpa using he
   refine ld1_i (k := .int .i64) x.id x0 (ld1_i (k := .int .i64) y.id y0 ?_)
   have : itlt x y = decide (x.id < y.id) := by unfold itlt; simp [he']
   rw [← this]; exact hQ w2 hk
  ·have he' : x.key ≠ y.key := by simpa using he
   have : itlt x y = false := by
    have : ¬ itlt x y = true := by rw [itlt_iff]; omega
    simpa using this
   rw [← this]; exact hQ w2 hk
structure HS where
 g : Nat
 r : Nat
 s : Sl
def HS.has (H : HS) (k : Nat) : Prop := k = H.g ∨ k = H.r ∨ ∃ a, H.s.b = some a ∧ k = a.block
structure HAt (w : World) (H : HS) (xs : List It) (f : Int → Option Int) : Prop where
 head : Own w H.g tHeap [sv H.s, .map (some H.r)]
 vec : Vec w tItem 2 eIt H.s xs
 map : ∃ n, MapF w H.r ekI knI f n
 gr : H.g ≠ H.r
 sg : ∀ a, H.s.b = some a → a.block ≠ H.g
 sr : ∀ a, H.s.b = some a → a.block ≠ H.r
section
variable {w : World} {H : HS} {xs : List It} {f : Int → Option Int}
theorem HAt.lt (h : HAt w H xs f) {k : Nat} (hk : H.has k) : k < w.heap.size := by
 rcases hk with rfl | rfl | ⟨a, ha, rfl⟩
 ·exact h.head.lt
 ·obtain ⟨n, hm⟩ := h.map; exact hm.lt
 ·exact h.vec.lt ha
theorem HAt.mod {F : Nat → Prop} {w' : World} (h : HAt w H xs f) (m : Mod F w w') (hF : ∀ k, H.has k → ¬ F k) : HAt w' H xs f :=
 ⟨h.head.mod m (hF _ (.inl rfl)), h.vec.mod m fun a ha => hF _ (.inr (.inr ⟨a, ha, rfl⟩)), by obtain ⟨n, hm⟩ := h.map; exact ⟨n, hm.mod m (hF _ (.inr (.inl rfl)))⟩, h.gr, h.sg, h.sr⟩
theorem HAt.keep {w' : World} (h : HAt w H xs f) (k : Keep w w') : HAt w' H xs f := h.mod k fun _ _ => id
theorem HAt.c0 (h : HAt w H xs f) : w.cell? ((⟨H.g, 0, none⟩ : Addr).add 0) = some (sv H.s) := by rw [addr_lit, h.head.cell]; rfl
theorem HAt.c1 (h : HAt w H xs f) : w.cell? ((⟨H.g, 0, none⟩ : Addr).add 1) = some (.map (some H.r)) := by rw [addr_lit, h.head.cell]; rfl
theorem HAt.base (h : HAt w H xs f) {i : Nat} (hi : i < xs.length) : ∃ b, H.s.b = some b := by
 obtain ⟨a, ha, _⟩ := (h.vec.rd lenIt).get i xs[i] (List.getElem?_eq_getElem hi)
 exact ⟨a, ha⟩
theorem set_i {i : Nat} {x : It} {Q : World → Prop} (h : HAt w H xs f) (hi : i < xs.length)
  (hQ : ∀ w', HAt w' H (xs.set i x) (fun v => if v = x.id then some (i : Int) else f v) → Mod H.has w w' → Q w') : F_hH_set (some ⟨H.g, 0, none⟩) (i : Int) (tupI x) w Q := by
 unfold F_hH_set
 simp only [allocD]
 have o1 : Own (w.alloc (.cells #[.int .i64 x.id, .int .i64 x.key] tItem)) w.heap.size tItem (eIt x) := Own.alloc' w _ _
 have k1 := Keep.alloc w (.cells #[.int .i64 x.id, .int .i64 x.key] tItem)
 generalize w.alloc (.cells #[.int .i64 x.id, .int .i64 x.key] 200) = w1 at *
 have k1d : Keep w w1.drew := k1.drew
 have o1d : Own w1.drew w.heap.size tItem (eIt x) := o1
 have h1 := h.keep k1d
 have hl := h1.vec.len
 obtain ⟨b, hb⟩ := h1.base hi
 have hbw : b.block < w.heap.size := h.lt (.inr (.inr ⟨b, hb, rfl⟩))
 refine onSome_i rfl (ld1_i (k := .slice) H.s h1.c0 (onSome_i rfl (ld1_i (k := .map) (some H.r) h1.c1 ?_)))
 refine ld1_i (k := .int .i64) x.id (by rw [addr_lit, o1d.cell]; rfl) (ldN_i (tupI x) (own_it o1d) ?_)
 refine ⟨⟨by omega, by omega⟩, onSome_i hb ?_⟩
 rw [Int.toNat_natCast]
 refine h1.vec.store lenIt hb hi x (v := itV x) rfl size_Item (oneIt x) fun w2 v2 m2 z2 => ?_
 refine ⟨by rw [addr_lit, (o1d.mod m2 (by omega)).cell]; rfl, ?_⟩
 obtain ⟨n, hm⟩ := h1.map
 refine entry_i (kn := knI) und_mIntInt keyInt (z := (0 : Int)) zero_int (hm.mod m2 (Ne.symm (h.sr b hb))) x.id (i : Int) fun w3 hm3 m3 _ => ?_
 refine hQ w3 ⟨(h1.head.mod m2 (Ne.symm (h.sg b hb))).mod m3 h.gr, v2.mod m3 fun a ha => h.sr a ha, ⟨_, hm3⟩, h.gr, h.sg, h.sr⟩ ?_
 exact (k1d.wk.trans m2 fun k _ hk => .inr (.inr ⟨b, hb, hk⟩)).trans m3 fun k _ hk => .inr (.inl hk)
end
theorem up_i {w : World} {H : HS} {ys : List It} {f : Int → Option Int} {i : Nat} {Q : World → Prop} (h : HAt w H ys f) (hi : i < ys.length) (hlen : ys.length < 4611686018427387904) (hu : UpI ys i) (hp : Places f ys i) (ha : Apart ys)
  (hQ : ∀ w' zs f', HAt w' H zs f' → HOk zs → PlacesAll f' zs → (∀ u, u ∈ zs ↔ u ∈ ys) → zs.length = ys.length → Mod H.has w w' → Q w') : F_hH_up (some ⟨H.g, 0, none⟩) (i : Int) w Q := by
 unfold F_hH_up
 have hl := h.vec.len
 obtain ⟨x, hx⟩ : ∃ x, ys[i]? = some x := ⟨_, List.getElem?_eq_getElem hi⟩
 obtain ⟨b, hb, hh⟩ := rd_it (h.vec.rd lenIt) hx
 refine onSome_i rfl (ld1_i (k := .slice) H.s h.c0 ⟨⟨by omega, by omega⟩, onSome_i hb ?_⟩)
 rw [Int.toNat_natCast]
 refine ldN_i (tupI x) hh ?_
 simp only [allocD]
 have k1 := Keep.alloc w (.cells #[.int .i64 0, .int .i64 0] tItem)
 have o1 : Own (w.alloc (.cells #[.int .i64 0, .int .i64 0] tItem)) w.heap.size tItem (eIt ⟨0, 0⟩) := Own.alloc' w _ _
 generalize w.alloc (.cells #[Value.int .i64 0, Value.int .i64 0] 200) = w1 at *
 refine item_store (x := x) o1 rfl fun w2 o2 m2 => ?_
 have k2 : Keep w w2 := Mod.fresh k1 m2 fun k hk => by omega
 generalize hb3 : w.heap.size = b3 at *
 have hHb : ∀ k, H.has k → ¬ k = b3 := fun k hk e => by have := h.lt hk; omega
 have z0 : ys.set i x = ys := by
  apply List.ext_getElem?; intro j; rw [List.getElem?_set]
  by_cases e : i = j
  ·subst e; rw [if_pos rfl, if_pos hi, hx]
  ·rw [if_neg e]
 refine loop_i (fun c t w3 => ∃ (i' : Nat) (ys' : List It) (f' : Int → Option Int), c = i' ∧ t = ((i' : Int), ()) ∧ HAt w3 H ys' f' ∧ i' < ys'.length ∧ ys'.length = ys.length ∧ UpI (ys'.set i' x) i' ∧ Places f' (ys'.set i' x) i' ∧ Apart (ys'.set i' x) ∧
   (∀ u, u ∈ ys'.set i' x ↔ u ∈ ys) ∧ Own w3 b3 tItem (eIt x) ∧ Mod H.has w w3) i
  ⟨i, ys, f, rfl, rfl, h.keep k2, hi, rfl, by rw [z0]; exact hu, by rw [z0]; exact hp, by rw [z0]; exact ha, by rw [z0]; exact fun _ => Iff.rfl, o2, k2.wk⟩ ?_
 rintro i t w3 ⟨_, ys', f', rfl, rfl, h3, hi3, hl3, hu3, hp3, ha3, hm3, o3, m3⟩ X hX
 dsimp only
 have hzi : (ys'.set i x)[i]? = some x := by rw [List.getElem?_set, if_pos rfl, if_pos hi3]
 have finish : ∀ {w4 : World}, Keep w3 w4 → UpI (ys'.set i x) i → HOk (ys'.set i x) → F_hH_set (some ⟨H.g, 0, none⟩) (i : Int) (tupI x) w4 Q := fun {w4} k4 _ hok => by
  refine set_i (x := x) (h3.keep k4) hi3 fun w5 h5 m5 => ?_
  refine hQ w5 _ _ h5 hok (hp3.done hzi fun j z hj hz e => hj (ha3 j i z x hz hzi e)) hm3 (by rw [List.length_set]; exact hl3) ((m3.tr k4.wk).tr m5)
 have d3 : Keep w3 w3.drew := Mod.drew (Mod.refl _ w3)
 refine cond_d (fun hpos => ?_) (fun hneg => ?_)
 ·have hi0 : 0 < i := by omega
  have hpi : (i - 1) / 2 < i := by omega
  obtain ⟨y, hy⟩ : ∃ y, ys'[(i - 1) / 2]? = some y := ⟨_, List.getElem?_eq_getElem (by omega)⟩
  have hzp : (ys'.set i x)[(i - 1) / 2]? = some y := by rw [List.getElem?_set, if_neg (by omega)]; exact hy
  have hpar := par hi0 (by omega)
  have h3d := h3.keep d3
  have hsl := h3d.vec.len
  obtain ⟨b', hb', hh'⟩ := rd_it (h3d.vec.rd lenIt) hy
  refine ldN_i (tupI x) (own_it (o3.mod d3 id)) (onSome_i rfl (ld1_i (k := .slice) H.s h3d.c0 ⟨by decide, ?_⟩))
  rw [hpar, Int.toNat_natCast]
  refine ⟨⟨by omega, by omega⟩, onSome_i hb' (ldN_i (tupI y) hh' ?_)⟩
  refine ahead_i (x := x) (y := y) fun w4 k4 => ?_
  have k34 := d3.tr k4
  have h4 := h3.keep k34
  refine cond_i (fun hlt => ?_) (fun hge => ?_)
  ·obtain ⟨b', hb', hh'⟩ := rd_it (h4.vec.rd lenIt) hy
   refine onSome_i rfl (ld1_i (k := .slice) H.s h4.c0 ⟨by decide, ⟨by omega, by omega⟩, onSome_i hb' (ldN_i (tupI y) hh' ?_)⟩)
   refine set_i (x := y) h4 hi3 fun w5 h5 m5 => ⟨by decide, ?_⟩
   have hss : ((ys'.set i x).set i y).set ((i - 1) / 2) x = (ys'.set i y).set ((i - 1) / 2) x := by rw [List.set_set]
   have hst := up_step hu3 hi0 hzi hzp hlt
   have hps := hp3.swap hzi hzp (by omega)
   have has := ha3.swap hzi hzp
   have hms := sw_mem hzi hzp
   rw [hss] at hst hps has
   simp only [hss] at hms
   exact hX ((i - 1) / 2) _ _ (by omega) ⟨(i - 1) / 2, ys'.set i y, _, rfl, rfl, h5, by rw [List.length_set]; omega, by rw [List.length_set]; exact hl3, hst, hps, has, fun u => (hms u).trans (hm3 u), (o3.mod k34 id).mod m5 fun hk => hHb _ hk rfl, (m3.tr k34.wk).tr m5⟩
  ·exact ldN_i (tupI x) (own_it (o3.mod k34 id)) (finish k34 hu3 (up_end hu3 hzi (.inr ⟨y, hzp, hge⟩)))
 ·exact ldN_i (tupI x) (own_it (o3.mod d3 id)) (finish d3 hu3 (up_end hu3 hzi (.inl (by omega))))
theorem down_i {w : World} {H : HS} {ys : List It} {f : Int → Option Int} {Q : World → Prop} (h : HAt w H ys f) (hi : 0 < ys.length) (hlen : ys.length < 2305843009213693952) (hu : DownI ys 0) (hp : Places f ys 0) (ha : Apart ys)
  (hQ : ∀ w' zs f', HAt w' H zs f' → HOk zs → PlacesAll f' zs → (∀ u, u ∈ zs ↔ u ∈ ys) → zs.length = ys.length → Mod H.has w w' → Q w') : F_hH_down (some ⟨H.g, 0, none⟩) 0 w Q := by
 unfold F_hH_down
 have hl := h.vec.len
 obtain ⟨x, hx⟩ : ∃ x, ys[0]? = some x := ⟨_, List.getElem?_eq_getElem hi⟩
 obtain ⟨b, hb, hh⟩ := rd_it (h.vec.rd lenIt) hx
 refine onSome_i rfl (ld1_i (k := .slice) H.s h.c0 ⟨⟨by omega, by omega⟩, onSome_i hb ?_⟩)
 refine ldN_i (tupI x) hh ?_
 simp only [allocD]
 have k1 := Keep.alloc w (.cells #[.int .i64 0, .int .i64 0] tItem)
 have o1 : Own (w.alloc (.cells #[.int .i64 0, .int .i64 0] tItem)) w.heap.size tItem (eIt ⟨0, 0⟩) := Own.alloc' w _ _
 generalize w.alloc (.cells #[Value.int .i64 0, Value.int .i64 0] 200) = w1 at *
 refine item_store (x := x) o1 rfl fun w2 o2 m2 => ?_
 have k2 : Keep w w2 := Mod.fresh k1 m2 fun k hk => by omega
 generalize hb3 : w.heap.size = b3 at *
 have hHb : ∀ k, H.has k → ¬ k = b3 := fun k hk e => by have := h.lt hk; omega
 have z0 : ys.set 0 x = ys := by
  apply List.ext_getElem?; intro j; rw [List.getElem?_set]
  by_cases e : 0 = j
  ·subst e; rw [if_pos rfl, if_pos hi, hx]
  ·rw [if_neg e]
 refine loop_i (fun c t w3 => ∃ (i' : Nat) (ys' : List It) (f' : Int → Option Int), c = ys.length - i' ∧ t = ((i' : Int), ()) ∧ HAt w3 H ys' f' ∧ i' < ys'.length ∧ ys'.length = ys.length ∧ DownI (ys'.set i' x) i' ∧ Places f' (ys'.set i' x) i' ∧ Apart (ys'.set i' x) ∧
   (∀ u, u ∈ ys'.set i' x ↔ u ∈ ys) ∧ Own w3 b3 tItem (eIt x) ∧ Mod H.has w w3) ys.length
  ⟨0, ys, f, rfl, rfl, h.keep k2, hi, rfl, by rw [z0]; exact hu, by rw [z0]; exact hp, by rw [z0]; exact ha, by rw [z0]; exact fun _ => Iff.rfl, o2, k2.wk⟩ ?_
 rintro c t w3 ⟨i, ys', f', hci, rfl, h3, hi3, hl3, hu3, hp3, ha3, hm3, o3, m3⟩ X hX
 subst hci
 dsimp only
 have hzi : (ys'.set i x)[i]? = some x := by rw [List.getElem?_set, if_pos rfl, if_pos hi3]
 have zne : ∀ j, j ≠ i → (ys'.set i x)[j]? = ys'[j]? := fun j hj => by rw [List.getElem?_set, if_neg (Ne.symm hj)]
 have hzl : (ys'.set i x).length = ys.length := by rw [List.length_set]; exact hl3
 have d3 : Keep w3 w3.drew := Mod.drew (Mod.refl _ w3)
 have finish : ∀ {w4 : World}, Keep w3 w4 → HOk (ys'.set i x) → F_hH_set (some ⟨H.g, 0, none⟩) (i : Int) (tupI x) w4 Q := fun {w4} k4 hok => by
  refine set_i (x := x) (h3.keep k4) hi3 fun w5 h5 m5 => ?_
  refine hQ w5 _ _ h5 hok (hp3.done hzi fun j z hj hz e => hj (ha3 j i z x hz hzi e)) hm3 hzl ((m3.tr k4.wk).tr m5)
 have e1 : IntKind.wrap .i64 (IntKind.wrap .i64 ((2 : Int) * (i : Int)) + 1) = ((2 * i + 1 : Nat) : Int) := by
  rw [w64 (n := (2 : Int) * (i : Int)) (by omega) (by omega), w64 (by omega) (by omega)]; omega
 have e2 : IntKind.wrap .i64 (((2 * i + 1 : Nat) : Int) + 1) = ((2 * i + 2 : Nat) : Int) := by
  rw [w64 (by omega) (by omega)]; omega
 intro J hJ
 have after : ∀ (k : Nat) (w4 : World), Keep w3 w4 → (k = 2 * i + 1 ∨ k = 2 * i + 2) → (ys.length ≤ k → ys.length ≤ 2 * i + 1) → (∀ y, ys'[k]? = some y → ∀ s, 0 < s → (s - 1) / 2 = i → ∀ v, ys'[s]? = some v → itlt v y = false) → J ((k : Int), ()) w4 := by
  intro k w4 k4 hk hkl hmin
  apply hJ
  dsimp only
  have d4 : Keep w4 w4.drew := Mod.drew (Mod.refl _ w4)
  have k4d := k4.tr d4
  have h4 := h3.keep k4d
  have hsl := h4.vec.len
  refine onSome_i rfl (ld1_i (k := .slice) H.s h4.c0 ?_)
  refine cond_d (fun hge => ?_) (fun hlt => ?_)
  ·refine ldN_i (tupI x) (own_it (o3.mod k4d id)) (finish k4d (down_end hu3 hzi fun s hs hsi v hv => ?_))
   have hs1 := (List.getElem?_eq_some_iff.1 hv).1
   have := hkl (by omega)
   omega
  ·have hkl' : k < ys'.length := by omega
   obtain ⟨y, hy⟩ : ∃ y, ys'[k]? = some y := ⟨_, List.getElem?_eq_getElem hkl'⟩
   have hki : k ≠ i := by omega
   have hzk : (ys'.set i x)[k]? = some y := by rw [zne k hki]; exact hy
   have hminz : ∀ s, 0 < s → (s - 1) / 2 = i → ∀ v, (ys'.set i x)[s]? = some v → itlt v y = false := fun s hs hsi v hv => by
    rw [zne s (by omega)] at hv; exact hmin y hy s hs hsi v hv
   obtain ⟨b', hb', hh'⟩ := rd_it (h4.vec.rd lenIt) hy
   have bnd : 0 ≤ (k : Int) ∧ (k : Int) < (H.s.l : Int) := ⟨by omega, by omega⟩
   rw [Int.toNat_natCast]
   refine onSome_i rfl (ld1_i (k := .slice) H.s h4.c0 ⟨bnd, onSome_i hb' (ldN_i (tupI y) hh' (ldN_i (tupI x) (own_it (o3.mod k4d id)) ?_))⟩)
   refine ahead_i (x := y) (y := x) fun w6 k6 => ?_
   have k46 := k4d.tr k6
   have h6 := h3.keep k46
   refine cond_i (fun hb => ?_) (fun hb => ?_)
   ·have hge : itlt y x = false := by simpa using hb
    exact ldN_i (tupI x) (own_it (o3.mod k46 id)) (finish k46 (down_end hu3 hzi fun s hs hsi v hv => le_trans' hge (hminz s hs hsi v hv)))
   ·have hlt' : itlt y x = true := by simpa using hb
    obtain ⟨b', hb', hh'⟩ := rd_it (h6.vec.rd lenIt) hy
    refine onSome_i rfl (ld1_i (k := .slice) H.s h6.c0 ⟨bnd, onSome_i hb' (ldN_i (tupI y) hh' ?_)⟩)
    refine set_i (x := y) h6 hi3 fun w8 h8 m8 => ?_
    have hss : ((ys'.set i x).set i y).set k x = (ys'.set i y).set k x := by rw [List.set_set]
    have hst := down_step hu3 (by omega) (by omega) hzi hzk hlt' hminz
    have hps := hp3.swap hzi hzk (Ne.symm hki)
    have has := ha3.swap hzi hzk
    have hms := sw_mem hzi hzk
    rw [hss] at hst hps has
    simp only [hss] at hms
    exact hX (ys.length - k) _ _ (by omega) ⟨k, ys'.set i y, _, rfl, rfl, h8, by rw [List.length_set]; omega, by rw [List.length_set]; exact hl3, hst, hps, has, fun u => (hms u).trans (hm3 u), (o3.mod k46 id).mod m8 fun hk => hHb _ hk rfl, (m3.tr k46.wk).tr m8⟩
 have h3d := h3.keep d3
 have hsl := h3d.vec.len
 refine onSome_i rfl (ld1_i (k := .slice) H.s h3d.c0 ?_)
 rw [e1, e2]
 refine cond_d (fun hlt => ?_) (fun hge => ?_)
 ·have hk2 : 2 * i + 2 < ys'.length := by omega
  obtain ⟨u, hu'⟩ : ∃ u, ys'[2 * i + 2]? = some u := ⟨_, List.getElem?_eq_getElem hk2⟩
  obtain ⟨v, hv'⟩ : ∃ v, ys'[2 * i + 1]? = some v := ⟨_, List.getElem?_eq_getElem (by omega)⟩
  obtain ⟨b1, hb1, hh1⟩ := rd_it (h3d.vec.rd lenIt) hu'
  obtain ⟨b2, hb2, hh2⟩ := rd_it (h3d.vec.rd lenIt) hv'
  rw [Int.toNat_natCast, Int.toNat_natCast]
  refine onSome_i rfl (ld1_i (k := .slice) H.s h3d.c0 ⟨⟨by omega, by omega⟩, onSome_i hb1 (ldN_i (tupI u) hh1 ?_)⟩)
  refine onSome_i rfl (ld1_i (k := .slice) H.s h3d.c0 ⟨⟨by omega, by omega⟩, onSome_i hb2 (ldN_i (tupI v) hh2 ?_)⟩)
  refine ahead_i (x := u) (y := v) fun w9 k9 => ?_
  refine cond_i (fun hb => ?_) (fun hb => ?_)
  ·refine after (2 * i + 2) w9 (d3.tr k9) (.inr rfl) (fun h => by omega) fun y hy s hs hsi z hz => ?_
   rw [hu'] at hy; cases hy
   have : s = 2 * i + 1 ∨ s = 2 * i + 2 := by omega
   rcases this with rfl | rfl
   ·rw [hv'] at hz; cases hz; exact lt_le hb
   ·rw [hu'] at hz; cases hz; exact itlt_irr _
  ·refine after (2 * i + 1) w9 (d3.tr k9) (.inl rfl) (fun h => h) fun y hy s hs hsi z hz => ?_
   rw [hv'] at hy; cases hy
   have : s = 2 * i + 1 ∨ s = 2 * i + 2 := by omega
   rcases this with rfl | rfl
   ·rw [hv'] at hz; cases hz; exact itlt_irr _
   ·rw [hu'] at hz; cases hz; exact hb
 ·refine after (2 * i + 1) w3.drew d3 (.inl rfl) (fun h => h) fun y hy s hs hsi z hz => ?_
  have hs1 := (List.getElem?_eq_some_iff.1 hz).1
  have : s = 2 * i + 1 ∨ s = 2 * i + 2 := by omega
  rcases this with rfl | rfl
  ·rw [hy] at hz; cases hz; exact itlt_irr _
  ·omega
end Go.Proofs.YtjjgcimlmjnaeaaGreat

namespace Go.Proofs.YtjjgcimlmjnaeaaGreat
open Go Go.Den
theorem qsrt_nodup {q : List It} (h : QSrt q) : q.Nodup := h.imp fun {x y} hxy e => by subst e; rw [itlt_irr] at hxy; cases hxy
theorem apart_nodup {xs : List It} (h : Apart xs) : xs.Nodup := by
 refine List.pairwise_iff_getElem.2 fun i j hi hj hij e => ?_
 have := h i j _ _ (List.getElem?_eq_getElem hi) (List.getElem?_eq_getElem hj) (by rw [e])
 omega
theorem same_len {q xs : List It} (h : q.Nodup) (h' : xs.Nodup) (hm : ∀ u, u ∈ q ↔ u ∈ xs) : xs.length = q.length := ((List.perm_ext_iff_of_nodup h h').2 hm).length_eq.symm
def HeapIs (w : World) (H : HS) (q : List It) : Prop := QSrt q ∧ ∃ xs f, HAt w H xs f ∧ HOk xs ∧ PlacesAll f xs ∧ (∀ u, u ∈ q ↔ u ∈ xs)
def HeapAny (w : World) (H : HS) (q : List It) : Prop := HeapIs w H q ∨ (q = [] ∧ H.s = ⟨none, 0, 0⟩ ∧ H.r = H.g ∧ Own w H.g tHeap [sv ⟨none, 0, 0⟩, .map none])
section
variable {w : World} {H : HS} {q : List It}
theorem HeapIs.srt (h : HeapIs w H q) : QSrt q := h.1
theorem HeapIs.one (h : HeapIs w H q) : One q := by
 obtain ⟨_, xs, f, _, _, hp, hm⟩ := h
 exact fun x hx y hy e => hp.one x ((hm x).1 hx) y ((hm y).1 hy) e
theorem HeapIs.lt (h : HeapIs w H q) {k : Nat} (hk : H.has k) : k < w.heap.size := by obtain ⟨_, xs, f, h, _⟩ := h; exact h.lt hk
theorem HeapIs.mod {F : Nat → Prop} {w' : World} (h : HeapIs w H q) (m : Mod F w w') (hF : ∀ k, H.has k → ¬ F k) : HeapIs w' H q := by
 obtain ⟨h0, xs, f, h, r⟩ := h
 exact ⟨h0, xs, f, h.mod m hF, r⟩
theorem HeapAny.lt (h : HeapAny w H q) {k : Nat} (hk : H.has k) : k < w.heap.size := by
 rcases h with h | ⟨_, hs, hr, h⟩
 ·exact h.lt hk
 ·rcases hk with rfl | rfl | ⟨a, ha, _⟩
  ·exact h.lt
  ·rw [hr]; exact h.lt
  ·rw [hs] at ha; cases ha
theorem HeapAny.mod {F : Nat → Prop} {w' : World} (h : HeapAny w H q) (m : Mod F w w') (hF : ∀ k, H.has k → ¬ F k) : HeapAny w' H q := h.imp (fun h => h.mod m hF) fun ⟨h0, hs, hr, h⟩ => ⟨h0, hs, hr, h.mod m (hF _ (.inl rfl))⟩
theorem HeapAny.keep {w' : World} (h : HeapAny w H q) (k : Keep w w') : HeapAny w' H q := h.mod k fun _ _ => id
theorem Len_h {Q : Int → World → Prop} (h : HeapAny w H q) (hQ : Q (q.length : Int) w) : F_hH_Len (some ⟨H.g, 0, none⟩) w Q := by
 unfold F_hH_Len
 refine cond_i (fun h => by simp at h) (fun _ => onSome_i rfl ?_)
 rcases h with ⟨h0, xs, f, h, _, hp, hm⟩ | ⟨rfl, hs, hr, h⟩
 ·have := h.vec.len
  have hl := same_len (qsrt_nodup h0) (apart_nodup hp.apart) hm
  refine ld1_i (k := .slice) H.s h.c0 ?_
  rw [this, hl]; exact hQ
 ·exact ld1_i (k := .slice) ⟨none, 0, 0⟩ (by rw [addr_lit, h.cell]; rfl) hQ
theorem push_mem_iff {v k : Int} (hl : lowQ q v k = false) (u : It) : u ∈ (pushQ q v k).1 ↔ u = ⟨v, k⟩ ∨ (u ∈ q ∧ u.id ≠ v) := by
 unfold pushQ
 rw [hl]
 simp only [Bool.false_eq_true, if_false]
 rw [mem_insQ, List.mem_filter]
 simp
theorem flat_set_key (rest : List Value) (k : Int) : ∀ (ys : List It) (i : Nat) (x : It), ys[i]? = some x → (ys.flatMap eIt ++ rest).set (i * 2 + 1) (.int .i64 k) = (ys.set i ⟨x.id, k⟩).flatMap eIt ++ rest
 | [], i, x, h => by simp at h
 | y :: ys, 0, x, h => by simp at h; subst h; rfl
 | y :: ys, i + 1, x, h => by
  simp at h
  have ih := flat_set_key rest k ys i x h
  have e : (i + 1) * 2 + 1 = (i * 2 + 1) + 2 := by omega
  rw [e]
  simp only [List.set_cons_succ, List.flatMap_cons, List.cons_append, List.nil_append]
  rw [ih]
theorem key_store {s : Sl} {ys : List It} {i : Nat} {x : It} {k : Int} {K : World → Prop} (h : Vec w tItem 2 eIt s ys) {a : Addr} (ha : s.b = some a) (hx : ys[i]? = some x)
  (hK : ∀ w', Vec w' tItem 2 eIt s (ys.set i ⟨x.id, k⟩) → Mod (fun k => k = a.block) w w' → K w') : storeD Tryz.prog tInt ((a.add (i * 2)).add 1) (.int .i64 k) w K := by
 rcases h.own with ⟨h1, _⟩ | ⟨g, rest, hb, ho, hl⟩
 ·rw [h1] at ha; cases ha
 ·rw [hb] at ha; cases ha
  have hi := (List.getElem?_eq_some_iff.1 hx).1
  have hfl := length_flatMap_enc lenIt ys
  rw [addr_lit, addr_lit, Nat.zero_add]
  refine storeD1_i ho size_Int (by rw [List.length_append, hfl]; omega) rfl rfl fun w' h2 h3 _ => hK w' ⟨by rw [List.length_set]; exact h.len, h.cap, h.max, .inr ⟨g, rest, hb, ?_, ?_⟩⟩ h3
  ·rw [← flat_set_key rest k ys i x hx]; exact h2
  ·rw [← hl, List.length_append, List.length_append, length_flatMap_enc lenIt, length_flatMap_enc lenIt, List.length_set]
theorem Push_i {vid key : Int} {Q : Bool → World → Prop} (h : HeapAny w H q) (hlen : q.length < 1000000)
  (hQ : ∀ w' H', HeapIs w' H' (pushQ q vid key).1 → H'.g = H.g → Mod H.has w w' → (∀ k, H'.has k → H.has k ∨ w.heap.size ≤ k) → Q (pushQ q vid key).2 w') : F_hH_Push (some ⟨H.g, 0, none⟩) vid key w Q := by
 unfold F_hH_Push
 refine cond_i (fun h => by simp at h) (fun _ => ?_)
 intro J hJ
 have core : ∀ w1 H1, HeapIs w1 H1 q → H1.g = H.g → Mod H.has w w1 → (∀ k, H1.has k → H.has k ∨ w.heap.size ≤ k) → J () w1 := by
  intro w1 H1 h1 hg1 m1 f1
  apply hJ
  rw [← hg1]
  obtain ⟨h0, xs, f, hA, hok, hp, hm⟩ := h1
  have hxl := same_len (qsrt_nodup h0) (apart_nodup hp.apart) hm
  have hsl := hA.vec.len
  have hone : One q := fun x hx y hy e => hp.one x ((hm x).1 hx) y ((hm y).1 hy) e
  obtain ⟨n, hmap⟩ := hA.map
  refine onSome_i rfl (ld1_i (k := .map) (some H1.r) hA.c1 ?_)
  refine lookup2_i (kn := knI) und_mIntInt keyInt (z := (0 : Int)) zero_int hmap vid ?_
  intro J2 hJ2
  have fin : ∀ (w3 : World) (H3 : HS) (ys : List It) (f3 : Int → Option Int) (i : Nat) (x : It), HAt w3 H3 ys f3 → ys[i]? = some x → x.id = vid → ys.length < 2000000 → UpI (ys.set i ⟨vid, key⟩) i → Places f3 (ys.set i ⟨vid, key⟩) i → Apart (ys.set i ⟨vid, key⟩) →
    (∀ u, u ∈ (pushQ q vid key).1 ↔ u ∈ ys.set i ⟨vid, key⟩) → lowQ q vid key = false → H3.g = H1.g → Mod H.has w w3 → (∀ k, H3.has k → H.has k ∨ w.heap.size ≤ k) → J2 ((i : Int), ()) w3 := by
   intro w3 H3 ys f3 i x hA3 hx hid hyl hup hpl hap hmem hlow hg3 m3 f3'
   apply hJ2
   have hi := (List.getElem?_eq_some_iff.1 hx).1
   obtain ⟨b, hb⟩ := hA3.base hi
   have hl3 := hA3.vec.len
   rw [← hg3]
   refine onSome_i rfl (ld1_i (k := .slice) H3.s hA3.c0 ⟨⟨by omega, by omega⟩, onSome_i hb ?_⟩)
   rw [Int.toNat_natCast]
   refine key_store (k := key) hA3.vec hb hx fun w4 v4 m4 => ?_
   rw [hid] at v4
   have bh : H3.has b.block := .inr (.inr ⟨b, hb, rfl⟩)
   have hA4 : HAt w4 H3 (ys.set i ⟨vid, key⟩) f3 := ⟨hA3.head.mod m4 (Ne.symm (hA3.sg b hb)), v4, by obtain ⟨n, hm⟩ := hA3.map; exact ⟨n, hm.mod m4 (Ne.symm (hA3.sr b hb))⟩, hA3.gr, hA3.sg, hA3.sr⟩
   have M : ∀ {wa wb : World} {G : Nat → Prop}, Mod H.has w wa → Mod G wa wb → (∀ k, G k → H3.has k) → Mod H.has w wb := fun ma mb hG => ma.trans mb fun k hk hGk => (f3' k (hG k hGk)).elim id fun h => absurd h (by omega)
   have m4' := M m3 m4 fun k hk => by rw [show k = b.block from hk]; exact bh
   refine up_i hA4 (by rw [List.length_set]; exact hi) (by rw [List.length_set]; omega) hup hpl hap fun w5 zs f5 hA5 hok5 hp5 hm5 hl5 m5 => ?_
   have hr : (pushQ q vid key).2 = true := by unfold pushQ; rw [hlow]; rfl
   rw [← hr]
   exact hQ w5 H3 ⟨push_srt h0 vid key, zs, f5, hA5, hok5, hp5, fun u => (hmem u).trans (hm5 u).symm⟩ (hg3.trans hg1) (M m4' m5 fun _ h => h) f3'
  cases hf : f vid with
  | none =>
   refine cond_i (fun _ => ?_) (fun h => by cases h)
   have hni : ∀ z ∈ xs, z.id ≠ vid := fun z hz e => by
    obtain ⟨j, hj⟩ := List.mem_iff_getElem?.1 hz
    have := hp.at_ j z hj
    rw [e, hf] at this; cases this
   have hlow : lowQ q vid key = false := by
    have : keyQ q vid = none := by
     cases hk : keyQ q vid with
     | none => rfl
     | some k => exact absurd rfl (hni _ ((hm _).1 (keyQ_some hk)))
    unfold lowQ; rw [this]
   refine onSome_i rfl (ld1_i (k := .slice) H1.s hA.c0 (onSome_i rfl (ld1_i (k := .slice) H1.s hA.c0 ?_)))
   simp only [allocD]
   have k1 := Keep.alloc w1 (.cells #[(.int .i64 vid), .int .i64 key] tItem)
   have hlit := Vec.lit w1 tItem eIt lenIt [(⟨vid, key⟩ : It)] #[(.int .i64 vid), .int .i64 key] rfl (by simp [maxLen])
   have hA' := hA.keep k1
   generalize w1.alloc (.cells #[Value.int .i64 vid, Value.int .i64 key] 200) = w6 at *
   refine append_i elem_sItem lenIt oneIt hA'.vec (hlit.rd lenIt) (by simp only [List.length_singleton]; omega) (by simp only [List.length_singleton]; omega) fun r w7 v7 m7 f7 hrn => ?_
   have hrb : ∃ b, r.b = some b := by
    obtain ⟨a, ha, _⟩ := (v7.rd lenIt).get xs.length ⟨vid, key⟩ (by simp)
    exact ⟨a, ha⟩
   have hgs : ¬ ∃ a, H1.s.b = some a ∧ H1.g = a.block := fun ⟨a, ha, e⟩ => hA.sg a ha e.symm
   have hrs : ¬ ∃ a, H1.s.b = some a ∧ H1.r = a.block := fun ⟨a, ha, e⟩ => hA.sr a ha e.symm
   have hgl : H1.g < w6.heap.size := hA'.lt (.inl rfl)
   have hrl : H1.r < w6.heap.size := hA'.lt (.inr (.inl rfl))
   have sep : ∀ a, r.b = some a → a.block ≠ H1.g ∧ a.block ≠ H1.r := fun a ha => by
    rcases f7 with e | ⟨a', e, hle⟩
    ·exact ⟨hA.sg a (e ▸ ha), hA.sr a (e ▸ ha)⟩
    ·rw [e] at ha; cases ha; exact ⟨by omega, by omega⟩
   refine onSome_i rfl ?_
   rw [addr_lit]
   refine storeD1_i (hA'.head.mod m7 hgs) size_sItem (by simp) rfl rfl fun w8 o8 m8 _ => ?_
   have hsl' : H1.s.l = xs.length := hsl
   rw [hsl']
   obtain ⟨n', hmap'⟩ := hA'.map
   have hA8 : HAt w8 ⟨H1.g, H1.r, r⟩ (xs ++ [⟨vid, key⟩]) f := ⟨o8, v7.mod m8 fun a ha => (sep a ha).1, ⟨n', (hmap'.mod m7 hrs).mod m8 hA.gr.symm⟩, hA.gr, fun a ha => (sep a ha).1, fun a ha => (sep a ha).2⟩
   have hset : (xs ++ [(⟨vid, key⟩ : It)]).set xs.length ⟨vid, key⟩ = xs ++ [⟨vid, key⟩] := by
    rw [List.set_append_right _ _ (Nat.le_refl _)]; simp
   have hget : ∀ (j : Nat) (z : It), (xs ++ [(⟨vid, key⟩ : It)])[j]? = some z → (j < xs.length ∧ xs[j]? = some z) ∨ (j = xs.length ∧ z = ⟨vid, key⟩) := fun j z hz => by
    by_cases hj : j < xs.length
    ·rw [List.getElem?_append_left hj] at hz; exact .inl ⟨hj, hz⟩
    ·rw [List.getElem?_append_right (by omega)] at hz
     have : j - xs.length = 0 := by have := (List.getElem?_eq_some_iff.1 hz).1; simp at this; omega
     rw [this] at hz
     simp at hz
     exact .inr ⟨by omega, hz.symm⟩
   have mw1 : Mod H.has w w6 := m1.tr k1.wk
   have has1 : ∀ k, H1.has k → k < w.heap.size → H.has k := fun k hk hlt => (f1 k hk).elim id fun h => by omega
   refine fin w8 ⟨H1.g, H1.r, r⟩ _ f xs.length ⟨vid, key⟩ hA8 (by simp) rfl (by simp; omega) ?_ ?_ ?_ ?_ hlow rfl ?_ ?_
   ·rw [hset]
    refine ⟨fun j hj hjl u v hu hv => ?_, fun j hj hjl _ u v hu hv => ?_⟩
    ·rcases hget j v hv with ⟨h1, h2⟩ | ⟨h1, _⟩
     ·rcases hget _ u hu with ⟨h3, h4⟩ | ⟨h3, _⟩
      ·exact hok j hj u v h4 h2
      ·omega
     ·omega
    ·rcases hget j v hv with ⟨h1, h2⟩ | ⟨h1, _⟩ <;> omega
   ·rw [hset]
    refine ⟨fun j z hj hz => ?_, fun v k hv => ?_⟩
    ·rcases hget j z hz with ⟨_, h2⟩ | ⟨h1, _⟩
     ·exact hp.at_ j z h2
     ·omega
    ·obtain ⟨z, hz, e⟩ := hp.dom v k hv
     exact ⟨z, by simp [hz], e⟩
   ·rw [hset]
    intro i j x y hx hy e
    rcases hget i x hx with ⟨_, h2⟩ | ⟨h1, rfl⟩ <;> rcases hget j y hy with ⟨_, h4⟩ | ⟨h3, rfl⟩
    ·exact hp.apart i j x y h2 h4 e
    ·exact absurd e (hni x (List.mem_of_getElem? h2))
    ·exact absurd e.symm (hni y (List.mem_of_getElem? h4))
    ·omega
   ·rw [hset]
    intro u
    rw [push_mem_iff hlow, List.mem_append, List.mem_singleton, hm]
    constructor
    ·rintro (rfl | ⟨h, _⟩)
     ·exact .inr rfl
     ·exact .inl h
    ·rintro (h | rfl)
     ·exact .inr ⟨h, hni u h⟩
     ·exact .inl rfl
   ·refine (mw1.trans m7 fun k hk ⟨a, ha, e⟩ => has1 k (.inr (.inr ⟨a, ha, e⟩)) hk).trans m8 fun k hk e => has1 k (.inl e) hk
   ·rintro k (rfl | rfl | ⟨a, ha, rfl⟩)
    ·exact f1 _ (.inl rfl)
    ·exact f1 _ (.inr (.inl rfl))
    ·rcases f7 with e | ⟨a', e, hle⟩
     ·exact f1 _ (.inr (.inr ⟨a, e ▸ ha, rfl⟩))
     ·have ha' : r.b = some a := ha
      rw [e] at ha'; cases ha'
      exact .inr (Nat.le_trans mw1.size hle)
  | some v =>
   refine cond_i (fun h => by cases h) (fun _ => ?_)
   obtain ⟨z, hz, hzid⟩ := hp.dom vid v hf
   obtain ⟨j, hj⟩ := List.mem_iff_getElem?.1 hz
   have hvj : v = (j : Int) := by have := hp.at_ j z hj; rw [hzid, hf] at this; exact Option.some.inj this
   subst hvj
   show onSome _ _
   have hjl := (List.getElem?_eq_some_iff.1 hj).1
   have hkq : keyQ q vid = some z.key := by rw [← hzid]; exact keyQ_mem hone ((hm z).2 hz)
   obtain ⟨b, hb, hh⟩ := rd_it (hA.vec.rd lenIt) hj
   refine onSome_i rfl (ld1_i (k := .slice) H1.s hA.c0 ?_)
   have ej : ((some (j : Int) : Option Int).getD 0) = (j : Int) := rfl
   show (0 ≤ (j : Int) ∧ (j : Int) < _) ∧ _
   refine ⟨⟨by omega, by omega⟩, onSome_i hb (ld1_i (k := .int .i64) z.key hh.2.1 ?_)⟩
   refine cond_d (fun hge => ?_) (fun hlt => ?_)
   ·have hlow : lowQ q vid key = true := by unfold lowQ; rw [hkq]; simpa using hge
    have e1 : (pushQ q vid key) = (q, false) := by unfold pushQ; rw [hlow]; rfl
    rw [e1] at hQ
    exact hQ w1 H1 ⟨h0, xs, f, hA, hok, hp, hm⟩ hg1 m1 f1
   ·have hlow : lowQ q vid key = false := by unfold lowQ; rw [hkq]; simp; omega
    have hlt' : itlt ⟨vid, key⟩ z = true := itlt_iff.2 (.inl (by show key < z.key; omega))
    have hle := lt_le hlt'
    have zget : ∀ i, (xs.set j ⟨vid, key⟩)[i]? = if i = j then some ⟨vid, key⟩ else xs[i]? := fun i => by
     rw [List.getElem?_set]
     by_cases e : j = i
     ·subst e; simp [hjl]
     ·rw [if_neg e, if_neg (Ne.symm e)]
    refine fin w1 H1 xs f j z hA hj hzid (by omega) ?_ ?_ ?_ ?_ hlow rfl m1 f1
    ·refine ⟨fun i hi hij u v hu hv => ?_, fun i hi hij hj0 u v hu hv => ?_⟩
     ·rw [zget] at hu hv
      rw [if_neg hij] at hv
      by_cases e : (i - 1) / 2 = j
      ·rw [if_pos e] at hu; cases hu
       exact le_trans' hle (hok i hi z v (by rw [e]; exact hj) hv)
      ·rw [if_neg e] at hu; exact hok i hi u v hu hv
     ·rw [zget, if_neg (by omega)] at hu hv
      exact le_trans' (hok j hj0 u z hu hj) (hok i hi z v (by rw [hij]; exact hj) hv)
    ·refine ⟨fun i x hij hx => ?_, fun v k hv => ?_⟩
     ·rw [zget, if_neg hij] at hx; exact hp.at_ i x hx
     ·obtain ⟨y, hy, e⟩ := hp.dom v k hv
      obtain ⟨i, hi⟩ := List.mem_iff_getElem?.1 hy
      by_cases hij : i = j
      ·subst hij
       rw [hj] at hi; cases hi
       exact ⟨⟨vid, key⟩, List.mem_iff_getElem?.2 ⟨i, by rw [zget, if_pos rfl]⟩, hzid.symm.trans e⟩
      ·exact ⟨y, List.mem_iff_getElem?.2 ⟨i, by rw [zget, if_neg hij]; exact hi⟩, e⟩
    ·have back : ∀ (i : Nat) (x : It), (xs.set j ⟨vid, key⟩)[i]? = some x → ∃ y, xs[i]? = some y ∧ y.id = x.id := fun i x hx => by
      rw [zget] at hx
      by_cases e : i = j
      ·rw [if_pos e] at hx; cases hx; subst e; exact ⟨z, hj, hzid⟩
      ·rw [if_neg e] at hx; exact ⟨x, hx, rfl⟩
     intro i i' x y hx hy e
     obtain ⟨x', h1, e1⟩ := back i x hx
     obtain ⟨y', h2, e2⟩ := back i' y hy
     exact hp.apart i i' x' y' h1 h2 (by rw [e1, e2, e])
    ·intro u
     rw [push_mem_iff hlow]
     constructor
     ·rintro (rfl | ⟨hu, hne⟩)
      ·exact List.mem_iff_getElem?.2 ⟨j, by rw [zget, if_pos rfl]⟩
      ·obtain ⟨i, hi⟩ := List.mem_iff_getElem?.1 ((hm u).1 hu)
       have : i ≠ j := fun e => by subst e; rw [hj] at hi; cases hi; exact hne hzid
       exact List.mem_iff_getElem?.2 ⟨i, by rw [zget, if_neg this]; exact hi⟩
     ·intro hu
      obtain ⟨i, hi⟩ := List.mem_iff_getElem?.1 hu
      rw [zget] at hi
      by_cases e : i = j
      ·rw [if_pos e] at hi; cases hi; exact .inl rfl
      ·rw [if_neg e] at hi
       refine .inr ⟨(hm u).2 (List.mem_of_getElem? hi), fun e' => e ?_⟩
       exact hp.apart i j u z hi hj (by rw [e', hzid])
 rcases h with h | ⟨rfl, hs, hr, h⟩
 ·obtain ⟨_, xs, f, hA, _⟩ := id h
  refine onSome_i rfl (ld1_i (k := .map) (some H.r) hA.c1 ?_)
  exact cond_i (fun h => by simp at h) (fun _ => core w H h rfl (Mod.refl _ _) fun k hk => .inl hk)
 ·refine onSome_i rfl (ld1_i (k := .map) none (by rw [addr_lit, h.cell]; rfl) ?_)
  refine cond_i (fun _ => ?_) (fun h => by simp at h)
  refine mapNew_i (ek := ekI) (kn := knI) fun hm k1 => ?_
  have hlt := h.lt
  have hsz : (w.alloc (.map #[] 0)).heap.size = w.heap.size + 1 := by simp
  have h1 := h.mod k1 id
  generalize w.alloc (.map #[] 0) = w1 at *
  refine onSome_i rfl ?_
  rw [addr_lit]
  refine storeD1_i h1 size_mIntInt (by simp) rfl rfl fun w2 o2 m2 _ => ?_
  refine core w2 ⟨H.g, w.heap.size, ⟨none, 0, 0⟩⟩ ⟨List.Pairwise.nil, [], fun _ => none, ⟨o2, Vec.nil _ _ _ _, ⟨_, hm.mod m2 (by omega)⟩, by show H.g ≠ w.heap.size; omega, (fun a ha => by cases ha), (fun a ha => by cases ha)⟩, ?_, ⟨by simp, by simp⟩, by simp⟩ rfl (k1.wk.trans m2 fun k _ e => .inl e) ?_
  ·intro j _ u v hu; simp at hu
  ·rintro k (rfl | rfl | ⟨a, ha, _⟩)
   ·exact .inl (.inl rfl)
   ·exact .inr (Nat.le_refl _)
   ·cases ha
end
end Go.Proofs.YtjjgcimlmjnaeaaGreat

namespace Go.Proofs.YtjjgcimlmjnaeaaGreat
open Go Go.Den
section
variable {w : World} {H : HS} {q : List It}
theorem Pop_i {x : It} {Q : Int → Int → Int → World → Prop} (h : HeapIs w H (x :: q)) (hlen : q.length < 1000000)
  (hQ : ∀ w' H', HeapIs w' H' q → H'.g = H.g → (∀ k, H'.has k ↔ H.has k) → Mod H.has w w' → Q x.id x.key 0 w') : F_hH_Pop (some ⟨H.g, 0, none⟩) w Q := by
 unfold F_hH_Pop
 obtain ⟨h0, xs, f, hA, hok, hp, hm⟩ := id h
 have hxl := same_len (qsrt_nodup h0) (apart_nodup hp.apart) hm
 have hsl := hA.vec.len
 have hn : xs.length = q.length + 1 := by rw [hxl]; simp
 refine Len_h (.inl h) ?_
 refine cond_i (fun h => by simp at h; omega) (fun _ => ?_)
 obtain ⟨r, hr⟩ : ∃ r, xs[0]? = some r := ⟨_, List.getElem?_eq_getElem (by omega)⟩
 have hrx : r = x := by
  have h1 := (hm r).2 (List.mem_of_getElem? hr)
  rcases List.mem_cons.1 h1 with e | h1
  ·exact e
  ·have h2 := (List.pairwise_cons.1 h0).1 r h1
   obtain ⟨j, hj⟩ := List.mem_iff_getElem?.1 ((hm x).1 (by simp))
   have := hok.min hr j x hj
   rw [this] at h2; cases h2
 subst hrx
 obtain ⟨last, hlast⟩ : ∃ y, xs[xs.length - 1]? = some y := ⟨_, List.getElem?_eq_getElem (by omega)⟩
 have wr1 : IntKind.wrap .i64 (((H.s.l : Nat) : Int) - 1) = ((xs.length - 1 : Nat) : Int) := by rw [w64 (by omega) (by omega)]; omega
 have d0 : Keep w w.drew := Mod.drew (Mod.refl _ w)
 intro J hJ
 have after : ∀ (w2 : World) (b1 b2 : Nat), Keep w w2 → w.heap.size ≤ b1 → w.heap.size ≤ b2 → Own w2 b1 tItem (eIt r) → Own w2 b2 tItem (eIt last) → J (some ⟨b1, 0, none⟩, some ⟨b2, 0, none⟩, ()) w2 := by
  intro w2 b1 b2 k2 lb1 lb2 o1 o2
  apply hJ
  dsimp only
  have d2 : Keep w2 w2.drew := Mod.drew (Mod.refl _ w2)
  have k2d := k2.tr d2
  have hA2 := hA.keep k2d
  have p1 := o1.mod d2 id
  have p2 := o2.mod d2 id
  have nb1 : ∀ k, H.has k → ¬ b1 = k := fun k hk e => by have := hA.lt hk; omega
  have nb2 : ∀ k, H.has k → ¬ b2 = k := fun k hk e => by have := hA.lt hk; omega
  refine onSome_i rfl (ld1_i (k := .slice) H.s hA2.c0 (onSome_i rfl (ld1_i (k := .slice) H.s hA2.c0 ?_)))
  rw [wr1, sliceAddr_zero, Int.toNat_natCast, Nat.sub_zero, Nat.sub_zero]
  have hcap := hA2.vec.cap
  refine ⟨⟨by omega, by omega⟩, onSome_i rfl ?_⟩
  rw [addr_lit]
  refine storeD1_i hA2.head size_sItem (by simp) rfl rfl fun w3 o3 m3 _ => ?_
  have d3 : Keep w3 w3.drew := Mod.drew (Mod.refl _ w3)
  have gm : ∀ k, k = H.g → H.has k := fun k e => .inl e
  have hv3 : Vec w3.drew tItem 2 eIt ⟨H.s.b, xs.length - 1, H.s.c⟩ (xs.take (xs.length - 1)) := ((hA2.vec.mod m3 fun a ha => hA.sg a ha).mod d3 (fun _ _ => id)).take (by omega)
  obtain ⟨n, hmap⟩ := hA2.map
  have hmap3 := (hmap.mod m3 (Ne.symm hA.gr)).mod d3 id
  have o3' : Own w3.drew H.g tHeap [sv ⟨H.s.b, xs.length - 1, H.s.c⟩, .map (some H.r)] := o3
  have q1 := (p1.mod m3 (nb1 _ (.inl rfl))).mod d3 id
  have q2 := (p2.mod m3 (nb2 _ (.inl rfl))).mod d3 id
  have M3 : Mod H.has w w3.drew := (k2d.wk.trans m3 fun k _ e => gm k e).tr d3.wk
  refine onSome_i rfl (ld1_i (k := .map) (some H.r) (by rw [addr_lit, o3'.cell]; rfl) (onSome_i rfl (ld1_i (k := .int .i64) r.id (by rw [addr_lit, q1.cell]; rfl) ?_)))
  refine delete_i (kn := knI) und_mIntInt keyInt hmap3 r.id fun w4 hm4 m4 _ => ?_
  have o4 := o3'.mod m4 hA.gr
  have hv4 := hv3.mod m4 fun a ha => hA.sr a ha
  have M4 : Mod H.has w w4 := M3.trans m4 fun k _ e => .inr (.inl e)
  have r1 := q1.mod m4 (nb1 _ (.inr (.inl rfl)))
  have r2 := q2.mod m4 (nb2 _ (.inr (.inl rfl)))
  have d4 : Keep w4 w4.drew := Mod.drew (Mod.refl _ w4)
  have has' : ∀ (k : Nat), HS.has ⟨H.g, H.r, ⟨H.s.b, xs.length - 1, H.s.c⟩⟩ k ↔ H.has k := fun k => Iff.rfl
  have hq' : QSrt q := (List.pairwise_cons.1 h0).2
  have hrq : r ∉ q := fun h => by have := (List.pairwise_cons.1 h0).1 r h; rw [itlt_irr] at this; cases this
  have memq : ∀ u, u ∈ q ↔ u ∈ xs ∧ u ≠ r := fun u => by
   rw [← hm u, List.mem_cons]
   constructor
   ·intro h; exact ⟨.inr h, fun e => hrq (e ▸ h)⟩
   ·rintro ⟨h | h, hne⟩
    ·exact absurd h hne
    ·exact h
  refine onSome_i rfl (ld1_i (k := .slice) ⟨H.s.b, xs.length - 1, H.s.c⟩ (by rw [addr_lit, o4.cell]; rfl) ?_)
  refine cond_d (fun hpos => ?_) (fun hneg => ?_)
  ·have hpos' : 0 < xs.length - 1 := by simpa using hpos
   have ytake : ∀ j, j < xs.length - 1 → (xs.take (xs.length - 1))[j]? = xs[j]? := fun j hj => List.getElem?_take_of_lt hj
   have hA4 : HAt w4.drew ⟨H.g, H.r, ⟨H.s.b, xs.length - 1, H.s.c⟩⟩ (xs.take (xs.length - 1)) (fun y => if y = r.id then none else f y) := ⟨o4.mod d4 id, hv4.mod d4 (fun _ _ => id), ⟨_, hm4.mod d4 id⟩, hA.gr, hA.sg, hA.sr⟩
   have ltake : (xs.take (xs.length - 1)).length = xs.length - 1 := by simp
   obtain ⟨b, hb⟩ := hA4.base (i := 0) (by omega)
   refine onSome_i rfl (ld1_i (k := .slice) ⟨H.s.b, xs.length - 1, H.s.c⟩ hA4.c0 (onSome_i rfl (ldN_i (tupI last) (own_it (r2.mod d4 id)) ⟨⟨by omega, by show (0 : Int) < ((xs.length - 1 : Nat) : Int); omega⟩, onSome_i hb ?_⟩)))
   refine hA4.vec.store lenIt hb (i := 0) (by omega) last (v := itV last) rfl size_Item (oneIt last) fun w5 v5 m5 _ => ?_
   have hA5 : HAt w5 ⟨H.g, H.r, ⟨H.s.b, xs.length - 1, H.s.c⟩⟩ ((xs.take (xs.length - 1)).set 0 last) (fun y => if y = r.id then none else f y) :=
    ⟨hA4.head.mod m5 (Ne.symm (hA.sg b hb)), v5, by obtain ⟨n, hm⟩ := hA4.map; exact ⟨n, hm.mod m5 (Ne.symm (hA.sr b hb))⟩, hA.gr, hA.sg, hA.sr⟩
   have bh : H.has b.block := .inr (.inr ⟨b, hb, rfl⟩)
   have M5 : Mod H.has w w5 := (M4.tr d4.wk).trans m5 fun k _ e => by rw [show k = b.block from e]; exact bh
   have yget : ∀ j z, ((xs.take (xs.length - 1)).set 0 last)[j]? = some z → (j = 0 ∧ z = last) ∨ (j ≠ 0 ∧ j < xs.length - 1 ∧ xs[j]? = some z) := fun j z hz => by
    have hjl := (List.getElem?_eq_some_iff.1 hz).1
    rw [List.length_set, ltake] at hjl
    rw [List.getElem?_set] at hz
    by_cases e : 0 = j
    ·subst e; rw [if_pos rfl, if_pos (by omega)] at hz; cases hz; exact .inl ⟨rfl, rfl⟩
    ·rw [if_neg e, ytake j hjl] at hz; exact .inr ⟨Ne.symm e, hjl, hz⟩
   have yput0 : ((xs.take (xs.length - 1)).set 0 last)[0]? = some last := by rw [List.getElem?_set, if_pos rfl, if_pos (by omega)]
   have yput : ∀ j z, j ≠ 0 → j < xs.length - 1 → xs[j]? = some z → ((xs.take (xs.length - 1)).set 0 last)[j]? = some z := fun j z hj hjl hz => by
    rw [List.getElem?_set, if_neg (Ne.symm hj), ytake j hjl]; exact hz
   have ne0 : ∀ j z, j ≠ 0 → xs[j]? = some z → z.id ≠ r.id := fun j z hj hz e => hj (hp.apart j 0 z r hz hr e)
   have hne : last.id ≠ r.id := ne0 _ _ (by omega) hlast
   refine down_i (H := ⟨H.g, H.r, ⟨H.s.b, xs.length - 1, H.s.c⟩⟩) hA5 (by rw [List.length_set]; omega) (by rw [List.length_set]; omega) ⟨fun j hj hj0 u v hu hv => ?_, fun j _ _ h0 => by omega⟩ ⟨fun j z hj hz => ?_, fun v k hv => ?_⟩ ?_ fun w6 zs f6 hA6 hok6 hp6 hm6 hl6 m6 => ?_
   ·rcases yget _ _ hu with ⟨h1, _⟩ | ⟨_, _, h1⟩
    ·omega
    ·rcases yget _ _ hv with ⟨h2, _⟩ | ⟨_, _, h2⟩
     ·omega
     ·exact hok j hj u v h1 h2
   ·rcases yget _ _ hz with ⟨h1, _⟩ | ⟨_, _, h1⟩
    ·omega
    ·rw [if_neg (ne0 j z hj h1)]; exact hp.at_ j z h1
   ·by_cases e : v = r.id
    ·rw [if_pos e] at hv; cases hv
    ·rw [if_neg e] at hv
     obtain ⟨z, hz, ez⟩ := hp.dom v k hv
     obtain ⟨j, hj⟩ := List.mem_iff_getElem?.1 hz
     have hjl := (List.getElem?_eq_some_iff.1 hj).1
     have hj0 : j ≠ 0 := fun e0 => by subst e0; rw [hr] at hj; cases hj; exact e ez.symm
     by_cases hjn : j = xs.length - 1
     ·subst hjn
      rw [hlast] at hj; cases hj
      exact ⟨last, List.mem_of_getElem? yput0, ez⟩
     ·exact ⟨z, List.mem_of_getElem? (yput j z hj0 (by omega) hj), ez⟩
   ·intro i j a b ha hb e
    rcases yget _ _ ha with ⟨h1, rfl⟩ | ⟨h1, h1', h2⟩ <;> rcases yget _ _ hb with ⟨h3, rfl⟩ | ⟨h3, h3', h4⟩
    ·omega
    ·have := hp.apart _ _ _ _ hlast h4 e; omega
    ·have := hp.apart _ _ _ _ h2 hlast e; omega
    ·exact hp.apart _ _ _ _ h2 h4 e
   ·have M6 : Mod H.has w w6.drew := ((M5.trans m6 fun k _ hk => hk)).tr (Mod.drew (Mod.refl _ w6))
    have d6 : Keep w6 w6.drew := Mod.drew (Mod.refl _ w6)
    have s1 := (((r1.mod d4 id).mod m5 (nb1 _ bh)).mod m6 fun hk => nb1 _ hk rfl).mod d6 id
    refine onSome_i rfl (ld1_i (k := .int .i64) r.id (by rw [addr_lit, s1.cell]; rfl) (onSome_i rfl (ld1_i (k := .int .i64) r.key (by rw [addr_lit, s1.cell]; rfl) ?_)))
    refine hQ _ ⟨H.g, H.r, ⟨H.s.b, xs.length - 1, H.s.c⟩⟩ ⟨hq', zs, f6, hA6.keep d6, hok6, hp6, fun u => ?_⟩ rfl has' M6
    rw [hm6 u, memq u]
    constructor
    ·rintro ⟨hu, hne'⟩
     obtain ⟨j, hj⟩ := List.mem_iff_getElem?.1 hu
     have hjl := (List.getElem?_eq_some_iff.1 hj).1
     have hj0 : j ≠ 0 := fun e0 => by subst e0; rw [hr] at hj; cases hj; exact hne' rfl
     by_cases hjn : j = xs.length - 1
     ·subst hjn
      rw [hlast] at hj; cases hj
      exact List.mem_of_getElem? yput0
     ·exact List.mem_of_getElem? (yput j u hj0 (by omega) hj)
    ·intro hu
     obtain ⟨j, hj⟩ := List.mem_iff_getElem?.1 hu
     rcases yget _ _ hj with ⟨_, rfl⟩ | ⟨h1, _, h2⟩
     ·exact ⟨List.mem_of_getElem? hlast, fun e => hne (by rw [e])⟩
     ·exact ⟨List.mem_of_getElem? h2, fun e => ne0 j u h1 h2 (by rw [e])⟩
  ·have hn1 : xs.length = 1 := by
    have : ¬ ((xs.length - 1 : Nat) : Int) > 0 := hneg
    omega
   have hq0 : q = [] := List.eq_nil_of_length_eq_zero (by omega)
   have s1 := r1.mod d4 id
   refine onSome_i rfl (ld1_i (k := .int .i64) r.id (by rw [addr_lit, s1.cell]; rfl) (onSome_i rfl (ld1_i (k := .int .i64) r.key (by rw [addr_lit, s1.cell]; rfl) ?_)))
   have t0 : xs.take (xs.length - 1) = [] := by rw [hn1]; rfl
   rw [t0] at hv4
   refine hQ _ ⟨H.g, H.r, ⟨H.s.b, xs.length - 1, H.s.c⟩⟩ ⟨hq', [], _, ⟨o4.mod d4 id, hv4.mod d4 (fun _ _ => id), ⟨_, hm4.mod d4 id⟩, hA.gr, hA.sg, hA.sr⟩, fun j _ u v hu => by simp at hu, ⟨by simp, fun v k hv => ?_⟩, by rw [hq0]; simp⟩ rfl has' (M4.tr d4.wk)
   replace hv : (if v = r.id then none else f v) = some k := hv
   by_cases e : v = r.id
   ·rw [if_pos e] at hv; cases hv
   ·rw [if_neg e] at hv
    obtain ⟨z, hz, ez⟩ := hp.dom v k hv
    obtain ⟨j, hj⟩ := List.mem_iff_getElem?.1 hz
    have hjl := (List.getElem?_eq_some_iff.1 hj).1
    have : j = 0 := by omega
    subst this
    rw [hr] at hj; cases hj
    exact absurd ez.symm e
 have hAd := hA.keep d0
 obtain ⟨b, hb, hh⟩ := rd_it (hAd.vec.rd lenIt) hr
 obtain ⟨b', hb', hh'⟩ := rd_it (hAd.vec.rd lenIt) hlast
 refine onSome_i rfl (ld1_i (k := .slice) H.s hAd.c0 ⟨⟨by omega, by omega⟩, onSome_i hb (ldN_i (tupI r) hh ?_)⟩)
 refine onSome_i rfl (ld1_i (k := .slice) H.s hAd.c0 (onSome_i rfl (ld1_i (k := .slice) H.s hAd.c0 ?_)))
 rw [wr1, Int.toNat_natCast]
 refine ⟨⟨by omega, by omega⟩, onSome_i hb' (ldN_i (tupI last) hh' ?_)⟩
 simp only [allocD]
 have zc : (#[.int .i64 0, .int .i64 0] : Array Value) = #[.int .i64 0, .int .i64 0] := rfl
 have kA := Keep.alloc w.drew (.cells #[.int .i64 0, .int .i64 0] 200)
 have oA : Own (w.drew.alloc (.cells #[.int .i64 0, .int .i64 0] 200)) w.drew.heap.size tItem (eIt ⟨0, 0⟩) := Own.alloc' w.drew _ _
 have sA : (w.drew.alloc (.cells #[.int .i64 0, .int .i64 0] 200)).heap.size = w.heap.size + 1 := by simp
 generalize w.drew.alloc (.cells #[.int .i64 0, .int .i64 0] 200) = wA at *
 have kB := Keep.alloc wA (.cells #[.int .i64 0, .int .i64 0] 200)
 have oB : Own (wA.alloc (.cells #[.int .i64 0, .int .i64 0] 200)) wA.heap.size tItem (eIt ⟨0, 0⟩) := Own.alloc' wA _ _
 generalize wA.alloc (.cells #[.int .i64 0, .int .i64 0] 200) = wB at *
 have hA_ := hAd.keep kA
 have hB_ := hA_.keep kB
 have szd : w.drew.heap.size = w.heap.size := rfl
 rw [szd] at oA ⊢
 have cellsOf : ∀ {wx : World}, HAt wx H xs f → HoldsAt wx (b.add (Int.toNat (0 : Int) * 2)) 0 [Value.int .i64 r.id, Value.int .i64 r.key] ∧ HoldsAt wx (b'.add ((xs.length - 1) * 2)) 0 [Value.int .i64 last.id, Value.int .i64 last.key] ∧ wx.cell? ((⟨H.g, 0, none⟩ : Addr).add 0) = some (.slice H.s.b H.s.l H.s.c) := fun {wx} hx => by
  obtain ⟨c, hc, h1⟩ := rd_it (hx.vec.rd lenIt) hr
  obtain ⟨c', hc', h2⟩ := rd_it (hx.vec.rd lenIt) hlast
  rw [hb] at hc; cases hc
  rw [hb'] at hc'; cases hc'
  exact ⟨h1, h2, hx.c0⟩
 obtain ⟨a1, a2, a3⟩ := cellsOf hA_
 obtain ⟨b1, b2, b3⟩ := cellsOf hB_
 have kAB : Keep w wB := (d0.tr kA).tr kB
 have oA' := oA.mod kB id
 have lA : ∀ k, H.has k → ¬ k = w.heap.size := fun k hk e => by have := hA.lt hk; omega
 have lB : ∀ k, H.has k → ¬ k = wA.heap.size := fun k hk e => by have := hA.lt hk; omega
 constructor
 ·refine ⟨a2, a3, a3, a1, a3, b2, b3, b3, b1, b3, ?_⟩
  refine item_store (x := r) oA' rfl fun w9 o9 m9 => ?_
  obtain ⟨c1, c2, c3⟩ := cellsOf (hB_.mod m9 lA)
  refine ⟨c2, c3, c3, ?_⟩
  refine item_store (x := last) (oB.mod m9 (by omega)) rfl fun w10 o10 m10 => ?_
  refine after w10 _ _ ((Mod.fresh kAB m9 fun k e => by omega).fresh m10 fun k e => by omega) (Nat.le_refl _) (by omega) (o9.mod m10 (by omega)) o10
 ·refine ⟨a2, a3, a3, a1, a3, b2, b3, b3, b1, b3, ?_⟩
  refine item_store (x := r) oB rfl fun w9 o9 m9 => ?_
  obtain ⟨c1, c2, c3⟩ := cellsOf (hB_.mod m9 lB)
  refine ⟨c2, c3, c3, ?_⟩
  refine item_store (x := last) (oA'.mod m9 (by omega)) rfl fun w10 o10 m10 => ?_
  refine after w10 _ _ ((Mod.fresh kAB m9 fun k e => by omega).fresh m10 fun k e => by omega) (by omega) (Nat.le_refl _) (o9.mod m10 (by omega)) o10
end
end Go.Proofs.YtjjgcimlmjnaeaaGreat

namespace Go.Proofs.YtjjgcimlmjnaeaaGreat
open Go Go.Den
theorem own_all {w : World} {g : Nat} {e : TypeId} {cs : List Value} (h : Own w g e cs) : HoldsAt w ⟨g, 0, none⟩ 0 cs := h.holds fun j v hj => by simpa using hj
theorem laid_i {key : Arc → Int} {s : Sl} {xs : List Arc} {a : Arc} {i : Nat} {found : Bool} {w : World} {Q : Sl → World → Prop} (hs : Vec w tArc 4 eArc s xs) (hsrt : Srt key xs) (low : IsLow key xs (key a) i) (hf : found = true ↔ ∃ x ∈ xs, key x = key a) (hb : xs.length ≤ 512)
  (hQ : ∀ s' w', Vec w' tArc 4 eArc s' (insBy key xs a) → Mod (fun k => ∃ b, s.b = some b ∧ k = b.block) w w' → (s'.b = s.b ∨ ∀ b, s'.b = some b → w.heap.size ≤ b.block) → Q s' w') : F_net_laid s (i : Int) found (tupA a) w Q := by
 cases found with
 | true =>
  obtain ⟨x, hx, hk⟩ := hf.1 rfl
  have hi : i < xs.length := (List.getElem?_eq_some_iff.1 (low.found hsrt hx hk)).1
  exact laid_at_i hs hi fun w' h1 h2 => hQ s w' (by rw [← low.ins_at hsrt hx hk]; exact h1) h2 (.inl rfl)
 | false =>
  have hn : ∀ x ∈ xs, key x ≠ key a := fun x hx hk => by have := hf.2 ⟨x, hx, hk⟩; cases this
  exact laid_new_i hs low.le (by omega) fun s' w' h1 h2 h3 => hQ s' w' (by rw [← low.ins_new hn]; exact h1) h2 (h3.imp id fun ⟨b, hb', hlt⟩ c hc => by rw [hb'] at hc; cases hc; exact hlt)
theorem Put_i {N : NetS} {n : Nat} {l : List Arc} {a : Arc} {w : World} {Q : Bool → World → Prop} (h : NetIs w N n l)
  (hQ : ∀ w' N', NetIs w' N' n (putL n l a).1 → N'.g = N.g → Mod N.has w w' → (∀ k, N'.has k → N.has k ∨ w.heap.size ≤ k) → Q (putL n l a).2 w') : F_nN_Put (some ⟨N.g, 0, none⟩) (tupA a) w Q := by
 unfold F_nN_Put
 simp only [allocD]
 have k1 := Keep.alloc w (.cells #[Value.int .i64 a.f, Value.int .i64 a.t, Value.int .i64 a.w, Value.int .i64 a.m] 91)
 have oa1 : Own (w.alloc (.cells #[Value.int .i64 a.f, Value.int .i64 a.t, Value.int .i64 a.w, Value.int .i64 a.m] 91)) w.heap.size 91 (eArc a) := Own.alloc' w _ 91
 generalize hw1 : w.alloc (.cells #[Value.int .i64 a.f, Value.int .i64 a.t, Value.int .i64 a.w, Value.int .i64 a.m] 91) = w1 at *
 generalize hb1 : w.heap.size = b1 at *
 have hold : ∀ k, N.has k → k ≠ b1 := fun k hk => by have := h.at_.lt hk; omega
 refine cond_i (fun h => by simp at h) (fun _ => ?_)
 refine ldN_i (tupA a) (own_all oa1) ?_
 have h1 := h.keep k1
 refine may_i h1.at_.head fun w2 r k2 hr => ?_
 have h2 := h1.keep k2
 have k12 := k1.tr k2
 have oa2 := oa1.mod k2 id
 refine cond_i (fun hr0 => ?_) (fun hr0 => ?_)
 ·have hno : ¬ mayA n a := fun hm => by rw [hr.2 hm] at hr0; cases hr0
  have e : putL n l a = (l, false) := by unfold putL; rw [if_neg hno]
  rw [e] at hQ
  exact hQ w2 N h2 rfl k12.wk fun k hk => .inl hk
 have hm : mayA n a := hr.1 (by cases r <;> simp at hr0 ⊢)
 have hsz := h.sz
 have hf0 := hm.1
 have hf1 := hm.2.1
 have ht0 := hm.2.2.1
 have ht1 := hm.2.2.2.1
 obtain ⟨v, hv⟩ : ∃ v : Nat, a.f = (v : Int) := ⟨a.f.toNat, by omega⟩
 obtain ⟨u, hu⟩ : ∃ u : Nat, a.t = (u : Int) := ⟨a.t.toNat, by omega⟩
 have hvn : v < n := by omega
 have hun : u < n := by omega
 have la : ∀ {w' : World}, Own w' b1 91 (eArc a) → w'.cell? ((⟨b1, 0, none⟩ : Addr).add 0) = some (.int .i64 (v : Int)) ∧ w'.cell? ((⟨b1, 0, none⟩ : Addr).add 1) = some (.int .i64 (u : Int)) ∧ w'.cell? ((⟨b1, 0, none⟩ : Addr).add 2) = some (.int .i64 a.w) := fun ho => by
  refine ⟨?_, ?_, ?_⟩ <;> rw [addr_lit, ho.cell]
  ·rw [← hv]; rfl
  ·rw [← hu]; rfl
  ·rfl
 have d2 : Keep w2 w2.drew := Mod.drew (Mod.refl _ w2)
 have h2' := h2.keep d2
 have oa2' := oa2.mod d2 id
 refine onSome_i rfl (ld1_i (k := .slice) ⟨some ⟨N.go, 0, none⟩, n, n⟩ h2'.at_.c0 (ld1_i (k := .int .i64) (v : Int) (la oa2').1 ?_))
 refine ⟨⟨by omega, by show _ < ((n : Nat) : Int); omega⟩, onSome_i rfl ?_⟩
 obtain ⟨s, hs, hcell⟩ := h2'.at_.out hvn
 refine ld1_i (k := .slice) s hcell (ld1_i (k := .int .i64) (u : Int) (la oa2').2.1 ?_)
 have hrow := h2'.at_.row v s hs
 have hX : rowsOf n l v = outL l a.f := by rw [hv]; simp [rowsOf, hvn]
 rw [hX] at hrow
 have hlenO := h.ok.out_len a.f
 rw [← hu]
 refine byTo_i (hrow.rd lenA) (h.ok.srt.out a.f) (by omega) fun i found w3 k3 low hfound => ?_
 have h3 := h2'.keep k3
 have k23 := (k12.tr d2).tr k3
 have oa3 := oa2'.mod k3 id
 intro J hJ
 have hfind : (found = true) ↔ ∃ x ∈ l, x.f = a.f ∧ x.t = a.t := by
  rw [hfound]
  constructor
  ·rintro ⟨x, hx, hk⟩; exact ⟨x, (mem_outL.1 hx).1, (mem_outL.1 hx).2, hk⟩
  ·rintro ⟨x, hx, hk1, hk2⟩; exact ⟨x, mem_outL.2 ⟨hx, hk1⟩, hk2⟩
 have hJ' : putL n l a = (insL l a, true) → J () w3.drew := by
  intro e
  rw [e] at hQ
  apply hJ
  have d3 : Keep w3 w3.drew.drew := Mod.drew (Mod.drew (Mod.refl _ w3))
  have h4 := h3.keep d3
  have oa4 := oa3.mod d3 id
  have k4 := k23.tr d3
  generalize w3.drew.drew = w4 at *
  refine onSome_i rfl (ld1_i (k := .slice) ⟨some ⟨N.go, 0, none⟩, n, n⟩ h4.at_.c0 (ld1_i (k := .int .i64) (v : Int) (la oa4).1 ?_))
  refine onSome_i rfl (ld1_i (k := .slice) ⟨some ⟨N.go, 0, none⟩, n, n⟩ h4.at_.c0 (ld1_i (k := .int .i64) (v : Int) (la oa4).1 ?_))
  refine ⟨⟨by omega, by show _ < ((n : Nat) : Int); omega⟩, onSome_i rfl ?_⟩
  obtain ⟨s', hs', hcell4⟩ := h4.at_.out hvn
  rw [hs] at hs'; cases hs'
  refine ld1_i (k := .slice) s hcell4 (ldN_i (tupA a) (own_all oa4) ?_)
  have hrow4 := h4.at_.row v s hs
  rw [hX] at hrow4
  refine laid_i hrow4 (h.ok.srt.out a.f) low hfound (by omega) fun s6 w5 hv6 m5 hb6 => ?_
  have hne : ∀ k, (∃ b, s.b = some b ∧ k = b.block) → N.has k := fun k ⟨b, hb, hk⟩ => .inr (.inr (.inr ⟨v, s, b, hs, hb, hk.symm⟩))
  have oa5 := oa4.mod m5 fun hk => hold _ (hne _ hk) rfl
  refine ⟨(la oa5).1, ?_, ⟨by omega, by show _ < ((n : Nat) : Int); omega⟩, onSome_i rfl ?_⟩
  ·have := h4.at_.head.mod m5 fun ⟨b, hb, hk⟩ => (h4.at_.sep v s b hs hb).1 hk.symm
   rw [addr_lit, this.cell]; rfl
  refine h4.at_.putOut hvn hs hv6 m5 hb6 fun w6 h6 m6 z6 => ?_
  have oa6 := oa4.mod m6 fun hk => hold _ hk rfl
  have hw4 : w.heap.size ≤ w4.heap.size := k4.size
  have hh6 : ∀ k, ({ N with rows := N.rows.set v s6 } : NetS).has k → N.has k ∨ w4.heap.size ≤ k := fun k hk =>
   NetS.has_set (P := fun k => w4.heap.size ≤ k) hs (fun a ha => hb6.imp id fun hq => hq a ha) hk
  have d6 : Keep w6 w6.drew := Mod.drew (Mod.refl _ w6)
  have h6' := h6.keep d6
  have oa6' := oa6.mod d6 id
  refine onSome_i rfl (ld1_i (k := .slice) ⟨some ⟨N.gi, 0, none⟩, n, n⟩ h6'.c1 (ld1_i (k := .int .i64) (u : Int) (la oa6').2.1 ?_))
  refine ⟨⟨by omega, by show _ < ((n : Nat) : Int); omega⟩, onSome_i rfl ?_⟩
  obtain ⟨s8, hs8, hcell8⟩ := h6'.inn hun
  refine ld1_i (k := .slice) s8 hcell8 (ld1_i (k := .int .i64) (v : Int) (la oa6').1 ?_)
  have hX8 : (if n + u = v then insBy Arc.t (outL l a.f) a else rowsOf n l (n + u)) = inL l a.t := by
   have : ¬ (n + u = v) := by omega
   have h2 : ¬ (n + u < n) := by omega
   simp only [this, if_false, rowsOf, h2]
   rw [hu]; congr 1; omega
  have hrow8 := h6'.row (n + u) s8 hs8
  rw [hX8] at hrow8
  have hlenI := h.ok.in_len a.t
  rw [← hv]
  refine byFrom_i (hrow8.rd lenA) (h.ok.srt.inn a.t) (by omega) fun i8 f8 w7 k7 low8 hf8 => ?_
  have d7 : Keep w7 w7.drew := Mod.drew (Mod.refl _ w7)
  have k7' := k7.tr d7
  have h7 := h6'.keep k7'
  have oa7 := oa6'.mod k7' id
  refine onSome_i rfl (ld1_i (k := .slice) ⟨some ⟨N.gi, 0, none⟩, n, n⟩ h7.c1 (ld1_i (k := .int .i64) (u : Int) (la oa7).2.1 ?_))
  refine onSome_i rfl (ld1_i (k := .slice) ⟨some ⟨N.gi, 0, none⟩, n, n⟩ h7.c1 (ld1_i (k := .int .i64) (u : Int) (la oa7).2.1 ?_))
  refine ⟨⟨by omega, by show _ < ((n : Nat) : Int); omega⟩, onSome_i rfl ?_⟩
  obtain ⟨s9, hs9, hcell9⟩ := h7.inn hun
  rw [hs8] at hs9; cases hs9
  refine ld1_i (k := .slice) s8 hcell9 (ldN_i (tupA a) (own_all oa7) ?_)
  have hrow9 := h7.row (n + u) s8 hs8
  rw [hX8] at hrow9
  have hfin : found = true ↔ ∃ x ∈ inL l a.t, x.f = a.f := by
   rw [hfind]
   constructor
   ·rintro ⟨x, hx, hk1, hk2⟩; exact ⟨x, mem_inL.2 ⟨hx, hk2⟩, hk1⟩
   ·rintro ⟨x, hx, hk⟩; exact ⟨x, (mem_inL.1 hx).1, hk, (mem_inL.1 hx).2⟩
  refine laid_i hrow9 (h.ok.srt.inn a.t) low8 hfin (by omega) fun s12 w8 hv12 m8 hb12 => ?_
  have hne8 : ∀ k, (∃ b, s8.b = some b ∧ k = b.block) → ({ N with rows := N.rows.set v s6 } : NetS).has k := fun k ⟨b, hb, hk⟩ => .inr (.inr (.inr ⟨n + u, s8, b, hs8, hb, hk.symm⟩))
  have hb1w : b1 < w4.heap.size := oa4.lt
  have hb1n : ¬ ({ N with rows := N.rows.set v s6 } : NetS).has b1 := fun hk => by
   rcases hh6 b1 hk with h' | h'
   ·exact hold _ h' rfl
   ·omega
  have oa8 := oa7.mod m8 fun hk => hb1n (hne8 _ hk)
  refine ⟨(la oa8).2.1, ?_, ⟨by omega, by show _ < ((n : Nat) : Int); omega⟩, onSome_i rfl ?_⟩
  ·have := h7.head.mod m8 fun ⟨b, hb, hk⟩ => (h7.sep (n + u) s8 b hs8 hb).1 hk.symm
   rw [addr_lit, this.cell]; rfl
  refine h7.putIn hun hs8 hv12 m8 hb12 fun w9 h9 m9 z9 => ?_
  have m46 : Mod N.has w w6 := k4.wk.tr m6
  have s67 : w4.heap.size ≤ w7.drew.heap.size := Nat.le_trans m6.size (Nat.le_trans d6.size k7'.size)
  have m69 : Mod N.has w w9 := ((m46.tr d6.wk).tr k7'.wk).trans m9 fun k hk hk' => by
   rcases hh6 k hk' with h' | h'
   ·exact h'
   ·omega
  refine hQ w9 { N with rows := (N.rows.set v s6).set (n + u) s12 } ⟨?_, h.ok.ins hm, h.sz⟩ rfl m69 fun k hk => ?_
  ·have hfun : (fun j => if j = n + u then insBy Arc.f (inL l a.t) a else (fun j => if j = v then insBy Arc.t (outL l a.f) a else rowsOf n l j) j) = rowsOf n (insL l a) := by
    funext j
    by_cases hj1 : j = n + u
    ·subst hj1
     have h2 : ¬ (n + u < n) := by omega
     simp only [if_true, rowsOf, h2, if_false]
     rw [inL_ins h.ok.srt, if_pos (by omega)]
     congr 2; omega
    ·simp only [hj1, if_false]
     by_cases hj2 : j = v
     ·subst hj2
      simp only [if_true, rowsOf, hvn]
      rw [outL_ins h.ok.srt, if_pos (by omega), hv]
     ·simp only [hj2, if_false, rowsOf]
      split
      ·rw [outL_ins h.ok.srt, if_neg (by omega)]
      ·rw [inL_ins h.ok.srt, if_neg (by omega)]
   rw [← hfun]; exact h9
  ·rcases NetS.has_set (N := { N with rows := N.rows.set v s6 }) (P := fun k => w7.drew.heap.size ≤ k) hs8 (fun a ha => hb12.imp id fun hq => hq a ha) hk with h' | h'
   ·rcases hh6 k h' with h'' | h''
    ·exact .inl h''
    ·exact .inr (by omega)
   ·exact .inr (by omega)
 have d3 : Keep w3 w3.drew := Mod.drew (Mod.refl _ w3)
 have h3' := h3.keep d3
 have oa3' := oa3.mod d3 id
 refine cond_i (fun hfd => ?_) (fun hfd => ?_)
 ·obtain ⟨x, hx, hxk⟩ := hfound.1 hfd
  have hxi := low.found (h.ok.srt.out a.f) hx hxk
  have hi : i < (outL l a.f).length := (List.getElem?_eq_some_iff.1 hxi).1
  have hxl := mem_outL.1 hx
  have efind : findL l a.f a.t = some x := by rw [← hxl.2, ← hxk]; exact findL_eq h.ok.srt hxl.1
  refine onSome_i rfl (ld1_i (k := .slice) ⟨some ⟨N.go, 0, none⟩, n, n⟩ h3'.at_.c0 (ld1_i (k := .int .i64) (v : Int) (la oa3').1 ?_))
  refine ⟨⟨by omega, by show _ < ((n : Nat) : Int); omega⟩, onSome_i rfl ?_⟩
  obtain ⟨s', hs', hcell3⟩ := h3'.at_.out hvn
  rw [hs] at hs'; cases hs'
  refine ld1_i (k := .slice) s hcell3 ?_
  have hrow3 := h3'.at_.row v s hs
  rw [hX] at hrow3
  have hl3 := hrow3.len
  refine ⟨⟨by omega, by omega⟩, ?_⟩
  obtain ⟨b, hb, hh⟩ := (hrow3.rd lenA).get i x hxi
  refine onSome_i hb (ld1_i (k := .int .i64) x.w ?_ (ld1_i (k := .int .i64) a.w (la oa3').2.2 ?_))
  ·exact (holds_iff.1 hh) 2 _ rfl
  refine cond_d (fun hle => ?_) (fun hle => ?_)
  ·have e : putL n l a = (l, false) := by unfold putL; rw [if_pos hm, efind]; simp only [hle, if_true]
   rw [e] at hQ
   exact hQ _ N h3' rfl (k23.tr d3).wk fun k hk => .inl hk
  ·exact hJ' (by unfold putL; rw [if_pos hm, efind]; simp only [hle, if_false])
 ·have efind : findL l a.f a.t = none := by
   cases hfl : findL l a.f a.t with
   | none => rfl
   | some x =>
    obtain ⟨h1, h2, h3⟩ := findL_some hfl
    rw [hfind.2 ⟨x, h1, h2, h3⟩] at hfd; cases hfd
  exact hJ' (by unfold putL; rw [if_pos hm, efind])
end Go.Proofs.YtjjgcimlmjnaeaaGreat
