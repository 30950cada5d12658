import Derived.Test.YtjjgcimlmjnaeaaGreatQ2
import Derived.Test.YtjjgcimlmjnaeaaGreatFL28
import Derived.Test.YtjjgcimlmjnaeaaGreatFRank
import Derived.Test.YtjjgcimlmjnaeaaGreatA2
import Derived.Test.YtjjgcimlmjnaeaaGreatFNet
import Derived.Test.YtjjgcimlmjnaeaaGreatFLev
import Derived.Test.YtjjgcimlmjnaeaaGreatA3
namespace Go.Proofs.YtjjgcimlmjnaeaaGreat
open Go Go.Den
section
variable {w : World} {g : Nat} {s : Sl} {n : Nat} {l : List Arc}
end
end Go.Proofs.YtjjgcimlmjnaeaaGreat

namespace Go.Proofs.YtjjgcimlmjnaeaaGreat
open Go Go.Den
section
variable {w : World} {g : Nat} {s : Sl} {n : Nat} {l : List Arc}
end
end Go.Proofs.YtjjgcimlmjnaeaaGreat

namespace Go.Proofs.YtjjgcimlmjnaeaaGreat
open Go Go.Den
abbrev eB (b : Bool) : List Value := [.bool b]
theorem lenB : ∀ b : Bool, (eB b).length = 1 := fun _ => rfl
theorem oneB : ∀ b : Bool, ∀ u ∈ eB b, u.oneCell' = true := by intro b u hu; simp at hu; subst hu; rfl
abbrev eI (n : Int) : List Value := [.int .i64 n]
theorem lenI : ∀ b : Int, (eI b).length = 1 := fun _ => rfl
theorem oneI : ∀ b : Int, ∀ u ∈ eI b, u.oneCell' = true := by intro b u hu; simp at hu; subst hu; rfl
theorem eI_ne (n : Int) : eI n ≠ [] := by simp
theorem rd_cell {α : Type} {w : World} {s : Sl} {k : CK} {e : α → k.T} {xs : List α} (h : Rd w s 1 (fun x => [k.enc (e x)]) xs) {i : Nat} {x : α} (hx : xs[i]? = some x) : ∃ a, s.b = some a ∧ w.cell? (a.add (i * 1)) = some (k.enc (e x)) := by
 obtain ⟨a, ha, hh⟩ := h.get i x hx
 exact ⟨a, ha, by have := hh.1; rwa [add_add, Nat.add_zero] at this⟩
abbrev R3 := Int × Int × Int
abbrev eR3 (r : R3) : List Value := [.int .i64 r.1, .int .i64 r.2.1, .int .i64 r.2.2]
theorem eR3_ne (r : R3) : eR3 r ≠ [] := by simp
theorem Round_i {k n : Int} {w : World} {Q : Int → World → Prop} (hn : 0 < n) (h63 : n ≤ 1000000) (hQ : Q (k % n) w) : F_alike_Round k n w Q := by
 unfold F_alike_Round
 have h1 := Int.emod_nonneg k (b := n) (by omega)
 have h2 := Int.emod_lt_of_pos k hn
 have h3 : k.tmod n = if 0 ≤ k then k % n else if k % n = 0 then 0 else k % n - n := by
  rw [Int.tmod_eq_emod]
  have hd : n ∣ k ↔ k % n = 0 := Int.dvd_iff_emod_eq_zero
  by_cases h0 : 0 ≤ k
  ·simp [h0]
  ·by_cases hz : k % n = 0
   ·simp [h0, hz, hd]
   ·have : ((n.natAbs : Nat) : Int) = n := by omega
    simp [h0, hz, hd, this]
 refine ⟨by omega, cond_d (fun h => ?_) (fun h => ?_)⟩
 ·have e : k.tmod n + n = k % n := by rw [h3] at h ⊢; split at h <;> rename_i h0 <;> simp only [h0, if_true, if_false] at h ⊢ <;> (try split at h) <;> (try split) <;> omega
  rw [e, w64 (by omega) (by omega)]; exact hQ
 ·have e : k.tmod n = k % n := by rw [h3] at h ⊢; split at h <;> rename_i h0 <;> simp only [h0, if_true, if_false] at h ⊢ <;> (try split at h) <;> (try split) <;> omega
  rw [e]; exact hQ
end Go.Proofs.YtjjgcimlmjnaeaaGreat

namespace Go.Proofs.YtjjgcimlmjnaeaaGreat
open Go Go.Den
theorem wi_ (i : Nat) (hi : i < 1099511627776) : IntKind.wrap .i64 ((i : Int) + 1) = ((i + 1 : Nat) : Int) := by rw [w64 (by omega) (by omega)]; rfl
theorem arc_copy {w : World} {x : Arc} {K : World → Prop} (hK : ∀ w', Keep w w' → Own w' w.heap.size tArc (eArc x) → w.heap.size < w'.heap.size → K w') :
  storeD Tryz.prog tArc ⟨w.heap.size, 0, none⟩ (arcV x) (w.alloc (.cells #[Value.int .i64 0, Value.int .i64 0, Value.int .i64 0, Value.int .i64 0] tArc)) K := by
 have k := Keep.alloc w (.cells #[Value.int .i64 0, Value.int .i64 0, Value.int .i64 0, Value.int .i64 0] tArc)
 have o : Own (w.alloc (.cells #[Value.int .i64 0, Value.int .i64 0, Value.int .i64 0, Value.int .i64 0] tArc)) w.heap.size tArc (eArc ⟨0, 0, 0, 0⟩) := Own.alloc' w _ _
 exact zero_store o rfl fun w' o' m' => hK w' (Mod.fresh k m' fun b hb => by omega) o' o'.lt
theorem own_arc {w : World} {g : Nat} {x : Arc} (h : Own w g tArc (eArc x)) : w.cell? ((⟨g, 0, none⟩ : Addr).add 0) = some (.int .i64 x.f) ∧ w.cell? ((⟨g, 0, none⟩ : Addr).add 1) = some (.int .i64 x.t) ∧ w.cell? ((⟨g, 0, none⟩ : Addr).add 2) = some (.int .i64 x.w) ∧ w.cell? ((⟨g, 0, none⟩ : Addr).add 3) = some (.int .i64 x.m) := by
 refine ⟨?_, ?_, ?_, ?_⟩ <;> rw [addr_lit, h.cell] <;> rfl
theorem Shortcuts_i {N : NetS} {n : Nat} {L : List Arc} {v : Int} {W : World} {Q : Sl → World → Prop} (h : NetIs W N n L)
  (hQ : ∀ s w', Vec w' tArc 4 eArc s (shortL n L v) → Keep W w' → (∀ b, s.b = some b → W.heap.size ≤ b.block) → Q s w') : F_rank_Shortcuts (some ⟨N.g, 0, none⟩) v W Q := by
 unfold F_rank_Shortcuts
 have hL := h.ok
 have hn := h.sz
 refine Out_i h fun s1 w1 v1 k1 f1 => ?_
 refine In_i (h.keep k1) fun s2 w2 v2 k2 f2 => ?_
 have k02 := k1.tr k2
 have h2 := h.keep k02
 have v12 := v1.mod k2 fun _ _ => id
 have s1l := v1.len
 have s2l := v2.len
 have il := hL.in_len v
 have ol := hL.out_len v
 have slen : ∀ i, ((inL L v).take i).flatMap (fun a => shortP n L v a (outL L v)) = ((inL L v).take i).flatMap (fun a => shortP n L v a (outL L v)) ∧ (((inL L v).take i).flatMap (fun a => shortP n L v a (outL L v))).length ≤ 262144 := fun i => by
  refine ⟨rfl, ?_⟩
  have h1 := short_len n L v ((inL L v).take i)
  have h2 : ((inL L v).take i).length ≤ 512 := by rw [List.length_take]; omega
  have : ((inL L v).take i).length * (outL L v).length ≤ 512 * 512 := Nat.mul_le_mul h2 (by omega)
  omega
 refine loop_i (fun c t w3 => ∃ (i : Nat) (s : Sl), i ≤ (inL L v).length ∧ c = (inL L v).length - i ∧ t = (s, (i : Int), ()) ∧ Vec w3 tArc 4 eArc s (((inL L v).take i).flatMap fun a => shortP n L v a (outL L v)) ∧ Keep w2 w3 ∧ (∀ b, s.b = some b → w2.heap.size ≤ b.block)) (inL L v).length
  ⟨0, _, Nat.zero_le _, rfl, rfl, by simpa using Vec.nil _ _ _ _, Mod.refl _ _, fun b hb => by cases hb⟩ ?_
 rintro c t w3 ⟨i, s, hi, rfl, rfl, hv, k3, fs⟩ X hX
 dsimp only
 refine cond_d (fun hlt => ?_) (fun hge => ?_)
 ·have hi' : i < (inL L v).length := by omega
  refine ⟨⟨by omega, by omega⟩, ?_⟩
  obtain ⟨p, hp, hh⟩ := rd_tup ((v2.mod k3 fun _ _ => id).rd lenA) (List.getElem?_eq_getElem hi')
  have hmem := List.getElem_mem hi'
  have tk : ((inL L v).take (i + 1)).flatMap (fun a => shortP n L v a (outL L v)) = ((inL L v).take i).flatMap (fun a => shortP n L v a (outL L v)) ++ shortP n L v (inL L v)[i] (outL L v) := by
   rw [List.take_succ_eq_append_getElem hi', List.flatMap_append]; simp
  have hb1 := (slen i).2
  generalize (inL L v)[i] = a at *
  generalize ((inL L v).take i).flatMap (fun a => shortP n L v a (outL L v)) = P at *
  obtain ⟨haL, hat⟩ := mem_inL.1 hmem
  obtain ⟨_, _, _, _, _, aw0, aw1, _⟩ := hL.may a haL
  refine onSome_i hp (ldN_i (tupA a) hh ?_)
  simp only [allocD]
  refine arc_copy fun w5 k5 o5 z5 => ?_
  have hv5 := hv.mod k5 fun _ _ => id
  have ne5 : ∀ b, s.b = some b → b.block ≠ w3.heap.size := fun b hb e => by have := hv.lt hb; omega
  have z23 := k3.size
  generalize w3.heap.size = b2 at *
  refine loop_i (fun c t w6 => ∃ (j : Nat) (s' : Sl), j ≤ (outL L v).length ∧ c = (outL L v).length - j ∧ t = (s', (j : Int), ()) ∧ Vec w6 tArc 4 eArc s' (P ++ shortP n L v a ((outL L v).take j)) ∧ Keep w2 w6 ∧ Own w6 b2 tArc (eArc a) ∧ (∀ b, s'.b = some b → w2.heap.size ≤ b.block ∧ b.block ≠ b2)) (outL L v).length
   ⟨0, s, Nat.zero_le _, rfl, rfl, by simpa [shortP] using hv5, k3.tr k5, o5, fun b hb => ⟨fs b hb, ne5 b hb⟩⟩ ?_
  rintro c t w6 ⟨j, s', hj, rfl, rfl, hv6, k6, o6, fs6⟩ Y hY
  dsimp only
  refine cond_d (fun hlt => ?_) (fun hge => ?_)
  ·have hj' : j < (outL L v).length := by omega
   refine ⟨⟨by omega, by omega⟩, ?_⟩
   obtain ⟨p, hp, hh⟩ := rd_tup ((v12.mod k6 fun _ _ => id).rd lenA) (List.getElem?_eq_getElem hj')
   have hmemb := List.getElem_mem hj'
   have tkj : shortP n L v a ((outL L v).take (j + 1)) = shortP n L v a ((outL L v).take j) ++ (if needB n L v a (outL L v)[j] then [⟨a.f, (outL L v)[j].t, a.w + (outL L v)[j].w, v⟩] else []) := by
    rw [List.take_succ_eq_append_getElem hj', shortP_snoc]
   have hb2 := shortP_len n L v a ((outL L v).take j)
   have hb3 : ((outL L v).take j).length ≤ 512 := by rw [List.length_take]; omega
   generalize (outL L v)[j] = b at *
   generalize shortP n L v a ((outL L v).take j) = R at *
   obtain ⟨hbL, hbf⟩ := mem_outL.1 hmemb
   obtain ⟨_, _, _, _, _, bw0, bw1, _⟩ := hL.may b hbL
   refine onSome_i hp (ldN_i (tupA b) hh ?_)
   refine arc_copy fun w8 k8 o8 z8 => ?_
   have K8 := k6.tr k8
   have o8' := o6.mod k8 id
   have hv8 := hv6.mod k8 fun _ _ => id
   have ne8 : ∀ b, s'.b = some b → b.block ≠ w6.heap.size := fun b hb e => by have := hv6.lt hb; omega
   have z26 := k6.size
   have zb2 := o6.lt
   generalize w6.heap.size = b4 at *
   obtain ⟨a0, a1, a2, _⟩ := own_arc o8'
   obtain ⟨c0, c1, c2, _⟩ := own_arc o8
   have next : ∀ w', Keep w8 w' → needB n L v a b = false → Y (s', IntKind.wrap .i64 ((j : Int) + 1), ()) w' := fun w' k' hn' => by
    rw [wi_ j (by omega)]
    exact hY _ _ _ (by omega) ⟨j + 1, s', hj', rfl, rfl, by rw [tkj, hn', if_neg (by simp), List.append_nil]; exact hv8.mod k' (fun _ _ => id), K8.tr k', o8'.mod k' id, fs6⟩
   refine ld1_i (k := .int .i64) a.f a0 (ld1_i (k := .int .i64) b.t c1 ?_)
   refine cond_i (fun he => ?_) (fun he => ?_)
   ·have he' : a.f = b.t := by simpa using he
    exact next w8 (Mod.refl _ _) (by unfold needB; simp [he'])
   ·have he' : a.f ≠ b.t := by simpa using he
    refine ld1_i (k := .int .i64) a.f a0 (ld1_i (k := .int .i64) b.t c1 (ld1_i (k := .int .i64) a.w a2 (ld1_i (k := .int .i64) b.w c2 ?_)))
    rw [w64 (n := a.w + b.w) (by omega) (by omega)]
    refine Find_i (h2.keep K8) (by omega) fun w9 k9 => ?_
    refine cond_i (fun hf => ?_) (fun hf => ?_)
    ·exact next w9 k9 (by unfold needB; rw [hf]; simp)
    ·have hneed : needB n L v a b = true := by unfold needB; rw [hf]; simp [he']
     have o9 := o8'.mod k9 id
     have q9 := o8.mod k9 id
     obtain ⟨a0, a1, a2, _⟩ := own_arc o9
     obtain ⟨c0, c1, c2, _⟩ := own_arc q9
     refine ld1_i (k := .int .i64) a.f a0 (ld1_i (k := .int .i64) b.t c1 (ld1_i (k := .int .i64) a.w a2 (ld1_i (k := .int .i64) b.w c2 ?_)))
     rw [w64 (n := a.w + b.w) (by omega) (by omega)]
     have hlit := Vec.lit w9 tArc eArc lenA [(⟨a.f, b.t, a.w + b.w, v⟩ : Arc)] #[Value.int .i64 a.f, Value.int .i64 b.t, Value.int .i64 (a.w + b.w), Value.int .i64 v] rfl (by simp [maxLen])
     have k10 := Keep.alloc w9 (.cells #[Value.int .i64 a.f, Value.int .i64 b.t, Value.int .i64 (a.w + b.w), Value.int .i64 v] tArc)
     have o10 := o9.mod k10 id
     have zb2' := o9.lt
     refine append_i elem_sArc lenA oneA ((hv8.mod k9 fun _ _ => id).mod k10 (fun _ _ => id)) (hlit.rd lenA) (by rw [List.length_append]; simp only [List.length_singleton]; omega) (by rw [List.length_append]; simp only [List.length_singleton]; omega) fun r w11 v11 m11 f11 _ => ?_
     rw [wi_ j (by omega)]
     have K10 := (K8.tr k9).tr k10
     refine hY _ _ _ (by omega) ⟨j + 1, r, hj', rfl, rfl, by rw [tkj, hneed, if_pos rfl, ← List.append_assoc]; exact v11, K10.fresh m11 fun k ⟨b, hb, e⟩ => by subst e; exact (fs6 b hb).1, o10.mod m11 fun ⟨b, hb, e⟩ => (fs6 b hb).2 e.symm, fun b hb => ?_⟩
     rcases f11 with e | ⟨a', e, hle⟩
     ·exact fs6 b (e ▸ hb)
     ·rw [e] at hb; cases hb
      have := o10.lt
      exact ⟨Nat.le_trans K10.size hle, by omega⟩
  ·have e : j = (outL L v).length := by omega
   subst e
   rw [List.take_length] at hv6
   rw [wi_ i (by omega)]
   exact hX _ _ _ (by omega) ⟨i + 1, s', hi', rfl, rfl, by rw [tk]; exact hv6, k6, fun b hb => (fs6 b hb).1⟩
 ·have e : i = (inL L v).length := by omega
  subst e
  rw [List.take_length] at hv
  exact hQ s w3 hv (k02.tr k3) fun b hb => Nat.le_trans k02.size (fs b hb)
theorem Worth_i {N : NetS} {n : Nat} {L : List Arc} {v : Int} {W : World} {Q : Int → World → Prop} (h : NetIs W N n L) (hQ : ∀ w', Keep W w' → Q (worthL n L v) w') : F_rank_Worth (some ⟨N.g, 0, none⟩) v W Q := by
 unfold F_rank_Worth
 refine Shortcuts_i h fun s w1 v1 k1 _ => ?_
 refine In_i (h.keep k1) fun s2 w2 v2 k2 _ => ?_
 refine Out_i ((h.keep k1).keep k2) fun s3 w3 v3 k3 _ => ?_
 have l1 := v1.len
 have l2 := v2.len
 have l3 := v3.len
 have hb := short_bnd h.ok h.sz v
 have il := h.ok.in_len v
 have ol := h.ok.out_len v
 have hn := h.sz
 rw [l1, l2, l3, w64 (n := ((shortL n L v).length : Int) - ((inL L v).length : Int)) (by omega) (by omega), w64 (by omega) (by omega)]
 exact hQ w3 ((k1.tr k2).tr k3)
theorem First_i {N : NetS} {n : Nat} {L : List Arc} {gone : Sl} {gs : List Bool} {W : World} {Q : Int → World → Prop} (h : NetIs W N n L) (hg : Rd W gone 1 eB gs) (hgl : gs.length < 1000000) (hQ : ∀ w', Keep W w' → Q (firstL n L gs) w') : F_rank_First (some ⟨N.g, 0, none⟩) gone W Q := by
 unfold F_rank_First
 have hn := h.sz
 have gl := hg.len
 refine Len_i h ?_
 refine loop_i (fun c t w2 => ∃ (k : Nat), k ≤ n ∧ c = n - k ∧ t = ((firstUpto n L gs k).1, (firstUpto n L gs k).2, (k : Int), ()) ∧ Keep W w2) n
  ⟨0, Nat.zero_le _, rfl, rfl, Mod.refl _ _⟩ ?_
 rintro c t w2 ⟨k, hk, rfl, rfl, k2⟩ X hX
 dsimp only
 refine cond_d (fun hlt => ?_) (fun hge => ?_)
 ·have hk' : k < n := by omega
  have hs := firstUpto_succ n L gs k
  have next : ∀ w', Keep W w' → ∀ z, firstStep n L gs (firstUpto n L gs k) k = z → X (z.1, z.2, IntKind.wrap .i64 ((k : Int) + 1), ()) w' := fun w' k' z hz => by
   rw [wi_ k (by omega)]
   exact hX _ _ _ (by omega) ⟨k + 1, hk', rfl, by rw [hs, hz], k'⟩
  intro J hJ
  have go : isGone gs k = false → J () w2 := fun hg' => by
   apply hJ
   refine Worth_i (h.keep k2) fun w4 k4 => ?_
   have K4 := k2.tr k4
   refine cond_d (fun h0 => ?_) (fun h0 => ?_)
   ·exact next w4 K4 ((k : Int), worthL n L k) (by unfold firstStep; rw [hg', if_neg (by simp), if_pos h0])
   ·refine cond_d (fun hw => ?_) (fun hw => ?_)
    ·exact next w4 K4 ((k : Int), worthL n L k) (by unfold firstStep; rw [hg', if_neg (by simp), if_neg h0, if_pos hw])
    ·exact next w4 K4 (firstUpto n L gs k) (by unfold firstStep; rw [hg', if_neg (by simp), if_neg h0, if_neg hw])
  refine cond_d (fun hl => ?_) (fun hl => ?_)
  ·have hkl : k < gs.length := by omega
   have hget : gs[k]? = some gs[k] := List.getElem?_eq_getElem hkl
   obtain ⟨p, hp, hc⟩ := rd_cell (k := .bool) (e := fun x => x) (hg.mod k2 (by simp) (fun _ _ => id)) hget
   have hgk : isGone gs k = gs[k] := by unfold isGone; rw [List.getD_eq_getElem?_getD, hget]; rfl
   rw [Int.toNat_natCast]
   refine ⟨⟨by omega, hl⟩, onSome_i hp (ld1_i (k := .bool) _ hc ?_)⟩
   refine cond_i (fun hb => ?_) (fun hb => go (hgk.trans hb))
   exact next w2 k2 (firstUpto n L gs k) (by unfold firstStep; rw [hgk, hb, if_pos rfl])
  ·refine go ?_
   unfold isGone
   rw [List.getD_eq_getElem?_getD, List.getElem?_eq_none (by omega)]; rfl
 ·have e : k = n := by omega
  subst e
  exact hQ w2 k2
end Go.Proofs.YtjjgcimlmjnaeaaGreat

namespace Go.Proofs.YtjjgcimlmjnaeaaGreat
open Go Go.Den
theorem alloc_i {w : World} {cs : Array Value} {t : TypeId} {K : Addr → World → Prop} (h : ∀ w', Own w' w.heap.size t cs.toList → Keep w w' → w'.heap.size = w.heap.size + 1 → K ⟨w.heap.size, 0, none⟩ w') : allocD w cs t K :=
 h _ (Own.alloc' w cs t) (Keep.alloc w _) (by simp)
theorem IndexFunc_i {s : Sl} {xs : List Arc} {del : Value} {p : Arc → Bool} {w : World} {Q : Int → World → Prop} {C : World → Prop} (hs : Vec w tArc 4 eArc s xs) (hl : xs.length < 1000000) (hC : C w) (hCk : ∀ w1 w2, C w1 → Keep w1 w2 → C w2)
  (hdel : ∀ x w1 (K : Value → World → Prop), C w1 → x ∈ xs → (∀ w2, Keep w1 w2 → K (.bool (p x)) w2) → callV Tryz.prog del [arcV x] w1 K)
  (hno : ∀ w', Keep w w' → (∀ x ∈ xs, p x = false) → Q (-1) w') (hyes : ∀ (i : Nat) w', Keep w w' → i < xs.length → (∀ j x, j < i → xs[j]? = some x → p x = false) → (∀ x, xs[i]? = some x → p x = true) → Q (i : Int) w') : F_slices_IndexFunc_sArc_Arc s del w Q := by
 unfold F_slices_IndexFunc_sArc_Arc
 have sl := hs.len
 refine loop_i (fun c t w1 => ∃ (i : Nat), i ≤ xs.length ∧ c = xs.length - i ∧ t = ((i : Int), ()) ∧ Keep w w1 ∧ ∀ j x, j < i → xs[j]? = some x → p x = false) xs.length ⟨0, Nat.zero_le _, rfl, rfl, Mod.refl _ _, fun j x hj => by omega⟩ ?_
 rintro c t w1 ⟨i, hi, rfl, rfl, k1, hn⟩ X hX
 refine cond_d (fun hlt => ?_) (fun hge => ?_)
 ·have hlt' : (i : Int) < (s.l : Int) := hlt
  have hi' : i < xs.length := by omega
  have hget := List.getElem?_eq_getElem hi'
  have hmem := List.getElem_mem hi'
  obtain ⟨q, hq, hh⟩ := rd_tup ((hs.mod k1 fun _ _ => id).rd lenA) hget
  generalize xs[i] = x at *
  show (0 ≤ (i : Int) ∧ (i : Int) < (s.l : Int)) ∧ _
  rw [Int.toNat_natCast]
  refine ⟨⟨by omega, hlt'⟩, onSome_i hq (ldN_i (tupA x) hh ?_)⟩
  refine hdel x w1 _ (hCk _ _ hC k1) hmem fun w2 k2 => ⟨p x, rfl, ?_⟩
  refine cond_i (fun hp => ?_) (fun hp => ?_)
  ·exact hyes i w2 (k1.tr k2) hi' hn fun y hy => by rw [hget] at hy; cases hy; exact hp
  ·show X (IntKind.wrap .i64 ((i : Int) + 1), ()) w2
   rw [wi_ i (by omega)]
   refine hX _ _ _ (by omega) ⟨i + 1, hi', rfl, rfl, k1.tr k2, fun j y hj hy => ?_⟩
   rcases Nat.lt_or_ge j i with h | h
   ·exact hn j y h hy
   ·have : j = i := by omega
    subst this
    rw [hget] at hy; cases hy; exact hp
 ·have hge' : ¬ (i : Int) < (s.l : Int) := hge
  refine hno w1 k1 fun x hx => ?_
  obtain ⟨j, hj⟩ := List.mem_iff_getElem?.1 hx
  have := (List.getElem?_eq_some_iff.1 hj).1
  exact hn j x (by omega) hj
theorem DeleteFunc_i {s : Sl} {xs : List Arc} {del : Value} {p : Arc → Bool} {w : World} {Q : Sl → World → Prop} {C : World → Prop} (hs : Vec w tArc 4 eArc s xs) (hl : xs.length < 1000000) (hC : C w) (hCk : ∀ w1 w2, C w1 → Mod (fun k => ∃ a, s.b = some a ∧ k = a.block) w1 w2 → C w2)
  (hdel : ∀ x w1 (K : Value → World → Prop), C w1 → x ∈ xs → (∀ w2, Keep w1 w2 → K (.bool (p x)) w2) → callV Tryz.prog del [arcV x] w1 K)
  (hQ : ∀ s' w', Vec w' tArc 4 eArc s' (xs.filter fun x => !p x) → Mod (fun k => ∃ a, s.b = some a ∧ k = a.block) w w' → s'.b = s.b → Q s' w') : F_slices_DeleteFunc_sArc_Arc s del w Q := by
 unfold F_slices_DeleteFunc_sArc_Arc
 have sl := hs.len
 have hcap := hs.cap
 have hmax := hs.max
 refine IndexFunc_i hs hl hC (fun w1 w2 c k => hCk w1 w2 c k.wk) hdel (fun w1 k1 hno => ?_) (fun i0 w1 k1 hi0 hbef hat => ?_)
 ·refine cond_i (fun _ => ?_) (fun h => by simp at h)
  have : xs.filter (fun x => !p x) = xs := List.filter_eq_self.2 fun x hx => by rw [hno x hx]; rfl
  exact hQ s w1 (by rw [this]; exact hs.mod k1 fun _ _ => id) k1.wk rfl
 ·refine cond_i (fun h => by simp at h) (fun _ => ?_)
  have pre : (xs.take (i0 + 1)).filter (fun x => !p x) = xs.take i0 := by
   rw [List.take_succ_eq_append_getElem hi0, List.filter_append]
   have e1 : (xs.take i0).filter (fun x => !p x) = xs.take i0 := List.filter_eq_self.2 fun x hx => by
    obtain ⟨j, hj⟩ := List.mem_iff_getElem?.1 hx
    have hjl := (List.getElem?_eq_some_iff.1 hj).1
    rw [List.length_take] at hjl
    rw [List.getElem?_take_of_lt (by omega)] at hj
    rw [hbef j x (by omega) hj]; rfl
   rw [e1, List.filter_cons, hat _ (List.getElem?_eq_getElem hi0)]
   simp
  rw [wi_ i0 (by omega)]
  refine loop_i (fun c t w2 => ∃ (i j : Nat) (ys : List Arc), j ≤ xs.length ∧ i ≤ j ∧ c = xs.length - j ∧ t = ((i : Int), (j : Int), ()) ∧ ys.length = xs.length ∧ ys.take i = (xs.take j).filter (fun x => !p x) ∧ ys.drop j = xs.drop j ∧ Vec w2 tArc 4 eArc s ys ∧ Mod (fun k => ∃ a, s.b = some a ∧ k = a.block) w w2) (xs.length - (i0 + 1))
   ⟨i0, i0 + 1, xs, hi0, by omega, rfl, rfl, rfl, pre.symm, rfl, hs.mod k1 (fun _ _ => id), k1.wk⟩ ?_
  rintro c t w2 ⟨i, j, ys, hj, hij, rfl, rfl, yl, ytake, ydrop, v2, m2⟩ X hX
  dsimp only
  refine cond_d (fun hlt => ?_) (fun hge => ?_)
  ·have hj' : j < xs.length := by omega
   have hget : ys[j]? = some xs[j] := by
    have := congrArg (·[0]?) ydrop
    simp only [List.getElem?_drop, Nat.add_zero] at this
    rw [this, List.getElem?_eq_getElem hj']
   have hmem := List.getElem_mem hj'
   have tk : (xs.take (j + 1)).filter (fun x => !p x) = (xs.take j).filter (fun x => !p x) ++ (if p xs[j] = true then [] else [xs[j]]) := by
    rw [List.take_succ_eq_append_getElem hj', List.filter_append, List.filter_cons, List.filter_nil]
    cases p xs[j] <;> simp
   obtain ⟨q, hq, hh⟩ := rd_tup (v2.rd lenA) hget
   generalize xs[j] = x at *
   rw [Int.toNat_natCast]
   refine ⟨⟨by omega, hlt⟩, onSome_i hq (ldN_i (tupA x) hh ?_)⟩
   simp only [allocD]
   refine arc_copy fun w4 k4 o4 z4 => ?_
   refine ldN_i (tupA x) (own_all o4) ?_
   have m4 := m2.tr k4.wk
   refine hdel x w4 _ (hCk _ _ hC m4) hmem fun w5 k5 => ⟨p x, rfl, ?_⟩
   have m5 := m4.tr k5.wk
   have v5 := (v2.mod k4 fun _ _ => id).mod k5 fun _ _ => id
   rw [wi_ j (by omega)]
   have drop1 : ∀ zs : List Arc, zs.drop j = xs.drop j → zs.drop (j + 1) = xs.drop (j + 1) := fun zs h => by
    rw [← List.drop_drop, ← List.drop_drop, h]
   refine cond_i (fun hp => ?_) (fun hp => ?_)
   ·have hp' : p x = false := by simpa using hp
    refine ldN_i (tupA x) (own_all (o4.mod k5 id)) ⟨⟨by omega, by omega⟩, onSome_i hq ?_⟩
    rw [Int.toNat_natCast]
    refine v5.store lenA hq (by omega) x (v := arcV x) rfl size_Arc (oneA x) fun w6 v6 m6 _ => ?_
    rw [wi_ i (by omega)]
    refine hX _ _ _ (by omega) ⟨i + 1, j + 1, ys.set i x, hj', by omega, rfl, rfl, by rw [List.length_set]; exact yl, ?_, ?_, v6, m5.tr (m6.mono fun k _ e => ⟨q, hq, e⟩)⟩
    ·rw [tk, hp', if_neg (by simp), ← ytake]
     have hi' : i < (ys.set i x).length := by rw [List.length_set]; omega
     rw [List.take_succ_eq_append_getElem hi', List.getElem_set_self]
     congr 1
     apply List.ext_getElem?
     intro m
     rw [List.getElem?_take, List.getElem?_take]
     split
     ·rw [List.getElem?_set, if_neg (by omega)]
     ·rfl
    ·rw [← drop1 ys ydrop]
     apply List.ext_getElem?
     intro m
     rw [List.getElem?_drop, List.getElem?_drop, List.getElem?_set, if_neg (by omega)]
   ·exact hX _ _ _ (by omega) ⟨i, j + 1, ys, hj', by omega, rfl, rfl, yl, by rw [tk, if_pos (show p x = true by simpa using hp), List.append_nil]; exact ytake, drop1 ys ydrop, v5, m5⟩
  ·have ej : j = xs.length := by omega
   subst ej
   rw [List.take_length] at ytake
   have hi : i ≤ xs.length := hij
   rcases v2.own with ⟨_, h0⟩ | ⟨g, rest, hbg, ho, hlen⟩
   ·omega
   refine ⟨⟨by omega, by omega⟩, ?_⟩
   rw [Int.toNat_natCast]
   have hfl : (ys.flatMap eArc).length = xs.length * 4 := by rw [len_flatA, yl]
   have hlen2 : (ys.flatMap eArc ++ rest).length = s.c * 4 := hlen
   have ti : ((ys.flatMap eArc ++ rest).take (i * 4)) = (ys.take i).flatMap eArc := flat_take lenA ys rest i (by omega)
   have fin : ∀ w7, Own w7 g tArc ((ys.take i).flatMap eArc ++ ((ys.flatMap eArc ++ rest).drop (i * 4))) ∨ (∃ zs : List Value, zs.length = (s.l - i) * 4 ∧ Own w7 g tArc ((ys.take i).flatMap eArc ++ (zs ++ (ys.flatMap eArc ++ rest).drop (i * 4 + (s.l - i) * 4)))) → Mod (fun k => k = g) w2 w7 →
     (0 ≤ (i : Int) ∧ (i : Int) ≤ (s.c : Int)) ∧ Q ⟨(sliceAddr s.b s.c 0 4), i - 0, (s.c - 0)⟩ w7 := fun w7 ho7 m7 => by
    refine ⟨⟨by omega, by omega⟩, ?_⟩
    rw [sliceAddr_zero, Nat.sub_zero, Nat.sub_zero]
    have til : ((ys.take i).flatMap eArc).length = i * 4 := by rw [len_flatA, List.length_take, Nat.min_eq_left (by omega)]
    have h4 : i * 4 ≤ s.c * 4 := Nat.mul_le_mul_right 4 (by omega)
    refine hQ _ w7 ⟨by rw [← ytake, List.length_take, Nat.min_eq_left (by omega)], by show i ≤ s.c; omega, hmax, .inr ?_⟩ (m2.tr (m7.mono fun k _ e => ⟨_, hbg, e⟩)) rfl
    rw [← ytake]
    rcases ho7 with ho7 | ⟨zs, hz, ho7⟩
    ·refine ⟨g, _, hbg, ho7, ?_⟩
     show _ = s.c * 4
     rw [List.length_append, List.length_drop, hlen2, til]; omega
    ·refine ⟨g, _, hbg, ho7, ?_⟩
     show _ = s.c * 4
     have : (s.l - i) * 4 = s.l * 4 - i * 4 := Nat.sub_mul _ _ _
     have h5 : s.l * 4 ≤ s.c * 4 := Nat.mul_le_mul_right 4 hcap
     have h6 : i * 4 ≤ s.l * 4 := Nat.mul_le_mul_right 4 (by omega)
     rw [List.length_append, List.length_append, List.length_drop, hlen2, til, hz]; omega
   by_cases hic : i < s.c
   ·rw [hbg, sliceAddr_own hic]
    have h5 : s.l * 4 ≤ s.c * 4 := Nat.mul_le_mul_right 4 hcap
    have h6 : (s.l - i) * 4 = s.l * 4 - i * 4 := Nat.sub_mul _ _ _
    have h7 : i * 4 ≤ s.l * 4 := Nat.mul_le_mul_right 4 (by omega)
    refine clear_own elem_sArc (by simp [Value.oneCell']) ho (by rw [hlen2]; omega) fun w7 zs hz ho7 m7 _ => ?_
    rw [ti, List.append_assoc] at ho7
    have := fin w7 (.inr ⟨zs, hz, ho7⟩) m7
    rw [hbg] at this
    exact this
   ·have hic' : i = s.c := by omega
    have hsl0 : s.l - i = 0 := by omega
    rw [hsl0]
    refine ⟨(), w2, ?_, ?_⟩
    ·cases sliceAddr s.b s.c i 4 <;> simp [Builtin.clear_, run_underlying elem_sArc.under, encK]
    ·exact fin w2 (.inl (by rw [← ti, List.take_append_drop]; exact ho)) (Mod.refl _ _)
end Go.Proofs.YtjjgcimlmjnaeaaGreat

namespace Go.Proofs.YtjjgcimlmjnaeaaGreat
open Go Go.Den
structure LevS where
 N : NetS
 gl : Nat
 rs : Sl
def LevS.has (H : LevS) (k : Nat) : Prop := k = H.gl ∨ H.N.has k ∨ ∃ a, H.rs.b = some a ∧ k = a.block
structure LevIs (w : World) (H : LevS) (n : Nat) (A : List Arc) (R : List Int) : Prop where
 head : Own w H.gl tLev [.pointer (some ⟨H.N.g, 0, none⟩), sv H.rs]
 net : NetIs w H.N n A
 rank : Vec w tInt 1 eI H.rs R
 rlen : R.length = n
section
variable {w : World} {H : LevS} {n : Nat} {A : List Arc} {R : List Int}
theorem LevIs.mod {F : Nat → Prop} {w' : World} (h : LevIs w H n A R) (m : Mod F w w') (hF : ∀ k, H.has k → ¬ F k) : LevIs w' H n A R :=
 ⟨h.head.mod m (hF _ (.inl rfl)), h.net.mod m fun k hk => hF k (.inr (.inl hk)), h.rank.mod m fun a ha => hF _ (.inr (.inr ⟨a, ha, rfl⟩)), h.rlen⟩
theorem LevIs.keep {w' : World} (h : LevIs w H n A R) (k : Keep w w') : LevIs w' H n A R := h.mod k fun _ _ => id
theorem LevIs.lt (h : LevIs w H n A R) {k : Nat} (hk : H.has k) : k < w.heap.size := by
 rcases hk with rfl | hk | ⟨a, ha, rfl⟩
 ·exact h.head.lt
 ·exact h.net.at_.lt hk
 ·exact h.rank.lt ha
theorem LevIs.c0 (h : LevIs w H n A R) : w.cell? ((⟨H.gl, 0, none⟩ : Addr).add 0) = some (.pointer (some ⟨H.N.g, 0, none⟩)) := by rw [addr_lit, h.head.cell]; rfl
theorem LevIs.c1 (h : LevIs w H n A R) : w.cell? ((⟨H.gl, 0, none⟩ : Addr).add 1) = some (sv H.rs) := by rw [addr_lit, h.head.cell]; rfl
theorem Rank_i {v : Int} {Q : Int → World → Prop} (h : LevIs w H n A R) (hQ : Q (rankOf R v) w) : F_lL_Rank (some ⟨H.gl, 0, none⟩) v w Q := by
 unfold F_lL_Rank
 have sl := h.rank.len
 unfold rankOf at hQ
 refine cond_i (fun h => by simp at h) (fun _ => ?_)
 refine cond_d (fun hlt => ?_) (fun h0 => ?_)
 ·rw [if_neg (by omega)] at hQ; exact hQ
 ·refine onSome_i rfl (ld1_i (k := .slice) H.rs h.c1 ?_)
  refine cond_d (fun hge => ?_) (fun hlt => ?_)
  ·have : ¬ (0 ≤ v ∧ v < (R.length : Int)) := by
    have hge' : v ≥ (H.rs.l : Int) := hge
    omega
   rw [if_neg this] at hQ; exact hQ
  ·have hlt' : ¬ v ≥ (H.rs.l : Int) := hlt
   have h0' : ¬ v < 0 := h0
   have hget : R[v.toNat]? = some (R.getD v.toNat 0) := by
    rw [List.getD_eq_getElem?_getD, List.getElem?_eq_getElem (show v.toNat < R.length by omega)]; rfl
   rw [if_pos ⟨by omega, by omega⟩] at hQ
   obtain ⟨p, hp, hc⟩ := rd_cell (k := .int .i64) (e := fun x => x) (h.rank.rd lenI) hget
   exact onSome_i rfl (ld1_i (k := .slice) H.rs h.c1 ⟨⟨by omega, by omega⟩, onSome_i hp (ld1_i (k := .int .i64) _ hc hQ)⟩)
theorem Up_c1_i {b1 b2 : Nat} {v : Int} {x : Arc} {K : Value → World → Prop} (h : LevIs w H n A R) (o1 : Own w b1 78 [.pointer (some ⟨H.gl, 0, none⟩)]) (o2 : Own w b2 tInt [.int .i64 v]) (hK : ∀ w', Keep w w' → K (.bool (decide (rankOf R x.t ≤ rankOf R v))) w') :
  callV Tryz.prog (.func (.func fn_lL_Up_c1) #[] #[.pointer (some ⟨b1, 0, none⟩), .pointer (some ⟨b2, 0, none⟩)]) [arcV x] w K := by
 refine callV_i S_lL_Up_c1 (by kernel_rfl) (first := #[]) (decK_intro (ks := [.agg [.int .i64, .int .i64, .int .i64, .int .i64], .c .ptr, .c .ptr]) (t := (tupA x, some ⟨b1, 0, none⟩, some ⟨b2, 0, none⟩, ())) ?_)
 show F_lL_Up_c1 (tupA x) (some ⟨b1, 0, none⟩) (some ⟨b2, 0, none⟩) w fun r w' => K (.bool r) w'
 unfold F_lL_Up_c1
 refine alloc_i fun w1 oa k1 _ => ?_
 have d1 : Keep w1 w1.drew := Mod.drew (Mod.refl _ w1)
 have k := k1.tr d1
 have h1 := h.keep k
 have p1 := own_cell (o1.mod k id)
 have p2 := own_cell (o2.mod k id)
 have pa := (own_arc (x := x) (oa.mod d1 id)).2.1
 refine onSome_i rfl (ld1_i (k := .ptr) (some ⟨H.gl, 0, none⟩) p1 (ld1_i (k := .int .i64) x.t pa (onSome_i rfl (ld1_i (k := .ptr) (some ⟨H.gl, 0, none⟩) p1 (onSome_i rfl (ld1_i (k := .int .i64) v p2 ?_))))))
 exact Rank_i h1 ⟨p2, p1, Rank_i h1 (hK _ k)⟩
theorem Down_c1_i {b1 b2 : Nat} {v : Int} {x : Arc} {K : Value → World → Prop} (h : LevIs w H n A R) (o1 : Own w b1 78 [.pointer (some ⟨H.gl, 0, none⟩)]) (o2 : Own w b2 tInt [.int .i64 v]) (hK : ∀ w', Keep w w' → K (.bool (decide (rankOf R x.f ≤ rankOf R v))) w') :
  callV Tryz.prog (.func (.func fn_lL_Down_c1) #[] #[.pointer (some ⟨b1, 0, none⟩), .pointer (some ⟨b2, 0, none⟩)]) [arcV x] w K := by
 refine callV_i S_lL_Down_c1 (by kernel_rfl) (first := #[]) (decK_intro (ks := [.agg [.int .i64, .int .i64, .int .i64, .int .i64], .c .ptr, .c .ptr]) (t := (tupA x, some ⟨b1, 0, none⟩, some ⟨b2, 0, none⟩, ())) ?_)
 show F_lL_Down_c1 (tupA x) (some ⟨b1, 0, none⟩) (some ⟨b2, 0, none⟩) w fun r w' => K (.bool r) w'
 unfold F_lL_Down_c1
 refine alloc_i fun w1 oa k1 _ => ?_
 have d1 : Keep w1 w1.drew := Mod.drew (Mod.refl _ w1)
 have k := k1.tr d1
 have h1 := h.keep k
 have p1 := own_cell (o1.mod k id)
 have p2 := own_cell (o2.mod k id)
 have pa := (own_arc (x := x) (oa.mod d1 id)).1
 refine onSome_i rfl (ld1_i (k := .ptr) (some ⟨H.gl, 0, none⟩) p1 (ld1_i (k := .int .i64) x.f pa (onSome_i rfl (ld1_i (k := .ptr) (some ⟨H.gl, 0, none⟩) p1 (onSome_i rfl (ld1_i (k := .int .i64) v p2 ?_))))))
 exact Rank_i h1 ⟨p2, p1, Rank_i h1 (hK _ k)⟩
theorem Up_i {v : Int} {Q : Sl → World → Prop} (h : LevIs w H n A R) (hQ : ∀ s w', Vec w' tArc 4 eArc s (upL A R v) → Keep w w' → (∀ b, s.b = some b → w.heap.size ≤ b.block) → Q s w') : F_lL_Up (some ⟨H.gl, 0, none⟩) v w Q := by
 unfold F_lL_Up
 refine alloc_i fun w1 o1 k1 z1 => alloc_i fun w2 o2 k2 z2 => ?_
 have o1' := o1.mod k2 id
 have k02 := k1.tr k2
 have d2 : Keep w2 w2.drew := Mod.drew (Mod.refl _ w2)
 have k0d := k02.tr d2
 have hd := h.keep k0d
 refine ld1_i (k := .ptr) (some ⟨H.gl, 0, none⟩) (own_cell o1') ?_
 refine cond_i (fun h => by simp at h) (fun _ => ?_)
 refine ld1_i (k := .ptr) (some ⟨H.gl, 0, none⟩) (own_cell (o1'.mod d2 id)) (onSome_i rfl (ld1_i (k := .ptr) (some ⟨H.N.g, 0, none⟩) hd.c0 (ld1_i (k := .int .i64) v (own_cell (o2.mod d2 id)) ?_)))
 have hsz := h.net.sz
 have hol := h.net.ok.out_len v
 refine Out_i hd.net fun s3 w3 v3 k3 f3 => ?_
 have K3 := k0d.tr k3
 have f3' : ∀ a, s3.b = some a → w.heap.size ≤ a.block ∧ a.block ≠ w.heap.size ∧ a.block ≠ w1.heap.size := fun a ha => by
  have := f3 a ha
  have e : w2.drew.heap.size = w2.heap.size := rfl
  omega
 have p1 := (o1'.mod d2 id).mod k3 id
 have p2 := (o2.mod d2 id).mod k3 id
 refine DeleteFunc_i (p := fun x => decide (rankOf R x.t ≤ rankOf R v)) (C := fun w' => LevIs w' H n A R ∧ Own w' w.heap.size 78 [.pointer (some ⟨H.gl, 0, none⟩)] ∧ Own w' w1.heap.size tInt [.int .i64 v]) v3 (by omega) ⟨h.keep K3, p1, p2⟩
  (fun wa wb ⟨c1, c2, c3⟩ m => ⟨c1.mod m fun k hk ⟨a, ha, e⟩ => by have := (f3' a ha).1; have := h.lt hk; omega, c2.mod m fun ⟨a, ha, e⟩ => (f3' a ha).2.1 e.symm, c3.mod m fun ⟨a, ha, e⟩ => (f3' a ha).2.2 e.symm⟩)
  (fun x wa K ⟨c1, c2, c3⟩ _ hK => Up_c1_i c1 c2 c3 hK) fun s4 w4 v4 m4 e4 => ?_
 refine hQ s4 w4 ?_ (K3.fresh m4 fun k ⟨a, ha, e⟩ => by rw [e]; exact (f3' a ha).1) fun b hb => (f3' b (e4 ▸ hb)).1
 have : (outL A v).filter (fun x => !decide (rankOf R x.t ≤ rankOf R v)) = upL A R v := by
  unfold upL
  refine List.filter_congr fun x _ => ?_
  by_cases hh : rankOf R x.t ≤ rankOf R v
  ·simp [hh]
  ·simp [hh]; omega
 rw [← this]; exact v4
theorem Down_i {v : Int} {Q : Sl → World → Prop} (h : LevIs w H n A R) (hQ : ∀ s w', Vec w' tArc 4 eArc s (downL A R v) → Keep w w' → (∀ b, s.b = some b → w.heap.size ≤ b.block) → Q s w') : F_lL_Down (some ⟨H.gl, 0, none⟩) v w Q := by
 unfold F_lL_Down
 refine alloc_i fun w1 o1 k1 z1 => alloc_i fun w2 o2 k2 z2 => ?_
 have o1' := o1.mod k2 id
 have k02 := k1.tr k2
 have d2 : Keep w2 w2.drew := Mod.drew (Mod.refl _ w2)
 have k0d := k02.tr d2
 have hd := h.keep k0d
 refine ld1_i (k := .ptr) (some ⟨H.gl, 0, none⟩) (own_cell o1') ?_
 refine cond_i (fun h => by simp at h) (fun _ => ?_)
 refine ld1_i (k := .ptr) (some ⟨H.gl, 0, none⟩) (own_cell (o1'.mod d2 id)) (onSome_i rfl (ld1_i (k := .ptr) (some ⟨H.N.g, 0, none⟩) hd.c0 (ld1_i (k := .int .i64) v (own_cell (o2.mod d2 id)) ?_)))
 have hsz := h.net.sz
 have hol := h.net.ok.in_len v
 refine In_i hd.net fun s3 w3 v3 k3 f3 => ?_
 have K3 := k0d.tr k3
 have f3' : ∀ a, s3.b = some a → w.heap.size ≤ a.block ∧ a.block ≠ w.heap.size ∧ a.block ≠ w1.heap.size := fun a ha => by
  have := f3 a ha
  have e : w2.drew.heap.size = w2.heap.size := rfl
  omega
 have p1 := (o1'.mod d2 id).mod k3 id
 have p2 := (o2.mod d2 id).mod k3 id
 refine DeleteFunc_i (p := fun x => decide (rankOf R x.f ≤ rankOf R v)) (C := fun w' => LevIs w' H n A R ∧ Own w' w.heap.size 78 [.pointer (some ⟨H.gl, 0, none⟩)] ∧ Own w' w1.heap.size tInt [.int .i64 v]) v3 (by omega) ⟨h.keep K3, p1, p2⟩
  (fun wa wb ⟨c1, c2, c3⟩ m => ⟨c1.mod m fun k hk ⟨a, ha, e⟩ => by have := (f3' a ha).1; have := h.lt hk; omega, c2.mod m fun ⟨a, ha, e⟩ => (f3' a ha).2.1 e.symm, c3.mod m fun ⟨a, ha, e⟩ => (f3' a ha).2.2 e.symm⟩)
  (fun x wa K ⟨c1, c2, c3⟩ _ hK => Down_c1_i c1 c2 c3 hK) fun s4 w4 v4 m4 e4 => ?_
 refine hQ s4 w4 ?_ (K3.fresh m4 fun k ⟨a, ha, e⟩ => by rw [e]; exact (f3' a ha).1) fun b hb => (f3' b (e4 ▸ hb)).1
 have : (inL A v).filter (fun x => !decide (rankOf R x.f ≤ rankOf R v)) = downL A R v := by
  unfold downL
  refine List.filter_congr fun x _ => ?_
  by_cases hh : rankOf R x.f ≤ rankOf R v
  ·simp [hh]
  ·simp [hh]; omega
 rw [← this]; exact v4
end
theorem Build_i {N : NetS} {n : Nat} {L : List Arc} {W : World} {Q : Option Addr → World → Prop} (h : NetIs W N n L) (hn : n ≤ 51) (hw : ∀ e ∈ L, e.w ≤ 40)
  (hQ : ∀ w' H, LevIs w' H n (bldN n L n).all (bldN n L n).rank → Keep W w' → (∀ k, H.has k → W.heap.size ≤ k) → Q (some ⟨H.gl, 0, none⟩) w') : F_levels_Build (some ⟨N.g, 0, none⟩) W Q := by
 unfold F_levels_Build
 have hL := h.ok
 have hLl := hL.len h.sz
 refine cond_i (fun h => by simp at h) (fun _ => ?_)
 have d0 : Keep W W.drew := Mod.drew (Mod.refl _ W)
 refine Copy_i (h.keep d0) (by omega) fun w1 C hC k1 fC => ?_
 have K1 := d0.tr k1
 refine Len_i (h.keep K1) ?_
 refine make_i elem_sBool (enc := eB) false rfl lenB (by omega) (Int.le_refl _) (by omega) (by omega) fun w3 v3 k3 => ?_
 simp only [Int.toNat_natCast] at v3 ⊢
 have K3 := K1.tr k3
 refine Copy_i (h.keep K3) (by omega) fun w4 A hA k4 fA => ?_
 have K4 := K3.tr k4
 refine Len_i (h.keep K4) ?_
 refine make_i elem_sInt (enc := eI) (0 : Int) rfl lenI (by omega) (Int.le_refl _) (by omega) (by omega) fun w6 v6 k6 => ?_
 simp only [Int.toNat_natCast] at v6 ⊢
 have K6 := K4.tr k6
 refine alloc_i fun w7 o7 k7 z7 => ?_
 have K7 := K6.tr k7
 refine Len_i (h.keep K7) ?_
 have szd : W.drew.heap.size = W.heap.size := rfl
 have c1 := hC.at_
 have hC7 := (((hC.keep k3).keep k4).keep k6).keep k7
 have hA7 := (hA.keep k6).keep k7
 have v37 := ((v3.mod k4 fun _ _ => id).mod k6 fun _ _ => id).mod k7 fun _ _ => id
 have v67 := v6.mod k7 fun _ _ => id
 have z13 : w1.heap.size < w3.heap.size := v3.lt rfl
 have z46 : w4.heap.size < w6.heap.size := v6.lt rfl
 have zW1 : W.heap.size ≤ w1.heap.size := K1.size
 have z34 : w3.heap.size ≤ w4.heap.size := k4.size
 have sepC : ∀ k, C.has k → W.heap.size ≤ k ∧ k < w1.heap.size := fun k hk => ⟨fC k hk, hC.at_.lt hk⟩
 have sepA : ∀ k, A.has k → w3.heap.size ≤ k ∧ k < w4.heap.size := fun k hk => ⟨fA k hk, hA.at_.lt hk⟩
 generalize hs1 : (⟨some ⟨w1.heap.size, 0, none⟩, n, n⟩ : Sl) = s1 at *
 generalize hs2 : (⟨some ⟨w4.heap.size, 0, none⟩, n, n⟩ : Sl) = s2 at *
 have s1b : s1.b = some ⟨w1.heap.size, 0, none⟩ := by rw [← hs1]
 have s2b : s2.b = some ⟨w4.heap.size, 0, none⟩ := by rw [← hs2]
 have s1l : s1.l = n := by rw [← hs1]
 have s2l : s2.l = n := by rw [← hs2]
 generalize hg1 : w1.heap.size = bg at *
 generalize hg2 : w4.heap.size = br at *
 generalize hg3 : w6.heap.size = bl at *
 have z37 : bl < w7.heap.size := by omega
 refine loop_i (fun c t w9 => ∃ (k : Nat) (C' A' : NetS), k ≤ n ∧ c = n - k ∧ t = ((k : Int), ()) ∧ NetIs w9 C' n (bldN n L k).left ∧ C'.g = C.g ∧ NetIs w9 A' n (bldN n L k).all ∧ A'.g = A.g ∧ Vec w9 tBool 1 eB s1 (bldN n L k).gone ∧ Vec w9 tInt 1 eI s2 (bldN n L k).rank ∧
   Own w9 bl tLev [.pointer (some ⟨A.g, 0, none⟩), sv s2] ∧ Keep W w9 ∧ (∀ b, C'.has b → W.heap.size ≤ b ∧ ¬ A'.has b ∧ b ≠ bg ∧ b ≠ br ∧ b ≠ bl) ∧ (∀ b, A'.has b → W.heap.size ≤ b ∧ b ≠ bg ∧ b ≠ br ∧ b ≠ bl) ∧ w7.heap.size ≤ w9.heap.size) n
  ⟨0, C, A, Nat.zero_le _, rfl, rfl, hC7, rfl, hA7, rfl, v37, v67, by rw [← hs2]; exact o7, K7, fun b hb => ?_, fun b hb => ?_, Nat.le_refl _⟩ ?_
 ·obtain ⟨q1, q2⟩ := sepC b hb
  exact ⟨q1, fun hb' => by have := sepA b hb'; omega, by omega, by omega, by omega⟩
 ·obtain ⟨q1, q2⟩ := sepA b hb
  exact ⟨by omega, by omega, by omega, by omega⟩
 rintro c t w9 ⟨k, C', A', hk, rfl, rfl, hC9, gC9, hA9, gA9, u1, u2, ol9, K9, fC9, fA9, z9⟩ X hX
 dsimp only
 have hinv := bld_inv hL hw hn k hk
 refine cond_d (fun hlt => ?_) (fun hge => ?_)
 ·have hk' : k < n := by omega
  obtain ⟨x0, x1, xg⟩ := bld_first hinv hk'
  have hst : bldN n L (k + 1) = bldStep n k (bldN n L k) := rfl
  rw [← gC9]
  refine First_i hC9 (u1.rd lenB) (by rw [hinv.gl]; omega) fun w10 k10 => ?_
  unfold bldStep at hst
  generalize firstL n (bldN n L k).left (bldN n L k).gone = v at *
  refine Shortcuts_i (hC9.keep k10) fun s3 w11 v11 k11 f11 => ?_
  have k911 := k10.tr k11
  have sl3 := v11.len
  have hsb := short_bnd hinv.okl h.sz v
  have hC11 := hC9.keep k911
  have hA11 := hA9.keep k911
  have f11' : ∀ b, s3.b = some b → ¬ C'.has b.block ∧ ¬ A'.has b.block ∧ b.block < w11.heap.size := fun b hb => by
   have h1 := f11 b hb
   have h2 := k10.size
   exact ⟨fun hh => by have := hC9.at_.lt hh; omega, fun hh => by have := hA9.at_.lt hh; omega, v11.lt hb⟩
  refine loop_i (fun c t w12 => ∃ (i : Nat) (C2 A2 : NetS), i ≤ (shortL n (bldN n L k).left v).length ∧ c = (shortL n (bldN n L k).left v).length - i ∧ t = ((i : Int), ()) ∧ NetIs w12 C2 n (putAll n (bldN n L k).left ((shortL n (bldN n L k).left v).take i)) ∧ C2.g = C'.g ∧ NetIs w12 A2 n (putAll n (bldN n L k).all ((shortL n (bldN n L k).left v).take i)) ∧ A2.g = A'.g ∧
    Vec w12 tArc 4 eArc s3 (shortL n (bldN n L k).left v) ∧ Vec w12 tBool 1 eB s1 (bldN n L k).gone ∧ Vec w12 tInt 1 eI s2 (bldN n L k).rank ∧ Own w12 bl tLev [.pointer (some ⟨A.g, 0, none⟩), sv s2] ∧ Keep W w12 ∧
    (∀ b, C2.has b → W.heap.size ≤ b ∧ ¬ A2.has b ∧ b ≠ bg ∧ b ≠ br ∧ b ≠ bl ∧ ∀ a, s3.b = some a → b ≠ a.block) ∧ (∀ b, A2.has b → W.heap.size ≤ b ∧ b ≠ bg ∧ b ≠ br ∧ b ≠ bl ∧ ∀ a, s3.b = some a → b ≠ a.block) ∧ w11.heap.size ≤ w12.heap.size) (shortL n (bldN n L k).left v).length
   ⟨0, C', A', Nat.zero_le _, rfl, rfl, hC11, rfl, hA11, rfl, v11, u1.mod k911 (fun _ _ => id), u2.mod k911 (fun _ _ => id), ol9.mod k911 id, K9.tr k911, fun b hb => ?_, fun b hb => ?_, Nat.le_refl _⟩ ?_
  ·obtain ⟨q1, q2, q3, q4, q5⟩ := fC9 b hb
   exact ⟨q1, q2, q3, q4, q5, fun a ha e => (f11' a ha).1 (e ▸ hb)⟩
  ·obtain ⟨q1, q3, q4, q5⟩ := fA9 b hb
   exact ⟨q1, q3, q4, q5, fun a ha e => (f11' a ha).2.1 (e ▸ hb)⟩
  rintro c t w12 ⟨i, C2, A2, hi, rfl, rfl, hC12, gC12, hA12, gA12, v12, u12, r12, l12, K12, fC12, fA12, z12⟩ Y hY
  have zz9 : w7.heap.size ≤ w12.heap.size := by have := k911.size; omega
  refine cond_d (fun hlt2 => ?_) (fun hge2 => ?_)
  ·have hlt2' : (i : Int) < (s3.l : Int) := hlt2
   have hi' : i < (shortL n (bldN n L k).left v).length := by omega
   obtain ⟨p, hp, hh⟩ := rd_tup (v12.rd lenA) (List.getElem?_eq_getElem hi')
   have tkC := putAll_snoc n (bldN n L k).left ((shortL n (bldN n L k).left v).take i) (shortL n (bldN n L k).left v)[i]
   have tkA := putAll_snoc n (bldN n L k).all ((shortL n (bldN n L k).left v).take i) (shortL n (bldN n L k).left v)[i]
   rw [← List.take_succ_eq_append_getElem hi'] at tkC tkA
   generalize (shortL n (bldN n L k).left v)[i] = x at *
   show (0 ≤ (i : Int) ∧ (i : Int) < (s3.l : Int)) ∧ _
   rw [Int.toNat_natCast]
   refine ⟨⟨by omega, hlt2'⟩, onSome_i hp (ldN_i (tupA x) hh ?_)⟩
   simp only [allocD]
   refine arc_copy fun w14 k14 o14 zb14 => ?_
   refine ldN_i (tupA x) (own_all o14) ?_
   have hC14 := hC12.keep k14
   have hA14 := hA12.keep k14
   have K14 := K12.tr k14
   have nbC : ∀ b, C2.has b → b ≠ w12.heap.size := fun b hb e => by have := hC12.at_.lt hb; omega
   have nbA : ∀ b, A2.has b → b ≠ w12.heap.size := fun b hb e => by have := hA12.at_.lt hb; omega
   have zW12 := K12.size
   have slt : ∀ a, s3.b = some a → a.block < w12.heap.size := fun a ha => v12.lt ha
   generalize hb3 : w12.heap.size = b3 at *
   rw [← gC12]
   refine Put_i hC14 fun w15 C3 hC15 gC15 m15 f15 => ?_
   have hA15 := hA14.mod m15 fun b hb hb' => (fC12 b hb').2.1 hb
   have o15 := o14.mod m15 fun hb => nbC b3 hb rfl
   have v15 := (v12.mod k14 fun _ _ => id).mod m15 fun a ha hb => (fC12 _ hb).2.2.2.2.2 a ha rfl
   have u15 := (u12.mod k14 fun _ _ => id).mod m15 fun a ha hb => by rw [s1b] at ha; cases ha; exact (fC12 _ hb).2.2.1 rfl
   have r15 := (r12.mod k14 fun _ _ => id).mod m15 fun a ha hb => by rw [s2b] at ha; cases ha; exact (fC12 _ hb).2.2.2.1 rfl
   have l15 := (l12.mod k14 id).mod m15 fun hb => (fC12 _ hb).2.2.2.2.1 rfl
   have K15 : Keep W w15 := Mod.fresh K14 m15 fun b hb => (fC12 b hb).1
   have fC15 : ∀ b, C3.has b → W.heap.size ≤ b ∧ ¬ A2.has b ∧ b ≠ bg ∧ b ≠ br ∧ b ≠ bl ∧ b ≠ b3 ∧ ∀ a, s3.b = some a → b ≠ a.block := fun b hb => by
    rcases f15 b hb with hb | hb
    ·obtain ⟨q1, q2, q3, q4, q5, q6⟩ := fC12 b hb
     exact ⟨q1, q2, q3, q4, q5, nbC b hb, q6⟩
    ·have := hA14.at_
     exact ⟨by omega, fun h' => by have := hA14.at_.lt h'; omega, by omega, by omega, by omega, by omega, fun a ha e => by have := slt a ha; omega⟩
   have d15 : Keep w15 w15.drew := Mod.drew (Mod.refl _ w15)
   have l15d := l15.mod d15 id
   refine ld1_i (k := .ptr) (some ⟨A.g, 0, none⟩) (by rw [addr_lit, l15d.cell]; rfl) (ldN_i (tupA x) (own_all (o15.mod d15 id)) ?_)
   rw [← gA9, ← gA12]
   refine Put_i (hA15.keep d15) fun w16 A3 hA16 gA16 m16 f16 => ?_
   have m16' : Mod A2.has w15 w16 := d15.wk.tr m16
   have hC16 := hC15.mod m16' fun b hb hb' => (fC15 b hb).2.1 hb'
   have v16 := v15.mod m16' fun a ha hb => (fA12 _ hb).2.2.2.2 a ha rfl
   have u16 := u15.mod m16' fun a ha hb => by rw [s1b] at ha; cases ha; exact (fA12 _ hb).2.1 rfl
   have r16 := r15.mod m16' fun a ha hb => by rw [s2b] at ha; cases ha; exact (fA12 _ hb).2.2.1 rfl
   have l16 := l15.mod m16' fun hb => (fA12 _ hb).2.2.2.1 rfl
   have K16 : Keep W w16 := Mod.fresh K15 m16' fun b hb => (fA12 b hb).1
   have z1516 : w15.heap.size ≤ w16.heap.size := m16'.size
   have z1415 := m15.size
   have z1214 := k14.size
   rw [wi_ i (by omega)]
   refine hY _ _ _ (by omega) ⟨i + 1, C3, A3, hi', rfl, rfl, by rw [tkC]; exact hC16, by rw [gC15, gC12], by rw [tkA]; exact hA16, by rw [gA16, gA12], v16, u16, r16, l16, K16, fun b hb => ?_, fun b hb => ?_, by omega⟩
   ·obtain ⟨q1, q2, q3, q4, q5, _, q6⟩ := fC15 b hb
    refine ⟨q1, fun hb' => ?_, q3, q4, q5, q6⟩
    rcases f16 b hb' with h' | h'
    ·exact q2 h'
    ·have h'' : w15.heap.size ≤ b := h'
     have := hC15.at_.lt hb; omega
   ·rcases f16 b hb with h' | h'
    ·obtain ⟨q1, q3, q4, q5, q6⟩ := fA12 b h'
     exact ⟨q1, q3, q4, q5, q6⟩
    ·have h'' : w15.heap.size ≤ b := h'
     exact ⟨by omega, by omega, by omega, by omega, fun a ha e => by have := slt a ha; omega⟩
  ·have hge2' : ¬ (i : Int) < (s3.l : Int) := hge2
   have ei : i = (shortL n (bldN n L k).left v).length := by omega
   subst ei
   rw [List.take_length] at hC12 hA12
   rw [← gC12]
   refine Cut_i hC12 fun w17 C3 hC17 gC17 m17 f17 => ?_
   have hA17 := hA12.mod m17 fun b hb hb' => (fC12 b hb').2.1 hb
   have u17 := u12.mod m17 fun a ha hb => by rw [s1b] at ha; cases ha; exact (fC12 _ hb).2.2.1 rfl
   have r17 := r12.mod m17 fun a ha hb => by rw [s2b] at ha; cases ha; exact (fC12 _ hb).2.2.2.1 rfl
   have l17 := l12.mod m17 fun hb => (fC12 _ hb).2.2.2.2.1 rfl
   have K17 : Keep W w17 := Mod.fresh K12 m17 fun b hb => (fC12 b hb).1
   have zl := hinv.rl
   have zg := hinv.gl
   refine ld1_i (k := .slice) s2 (by rw [addr_lit, l17.cell]; rfl) ?_
   refine ⟨⟨x0, by rw [s2l]; omega⟩, onSome_i s2b ?_⟩
   refine r17.store lenI s2b (i := v.toNat) (by omega) (k : Int) (v := .int .i64 (k : Int)) rfl size_Int (oneI _) fun w18 r18 m18 _ => ?_
   have m18' : Mod (fun b => b = br) w17 w18 := m18
   have zbg : bg ≠ br := by omega
   have u18 := u17.mod m18' fun a ha e => by rw [s1b] at ha; cases ha; exact zbg e
   refine ⟨⟨x0, by first | omega | (rw [s1l]; omega)⟩, onSome_i (by first | rfl | exact s1b) ?_⟩
   refine u18.store lenB s1b (i := v.toNat) (by omega) true (v := .bool true) rfl size_Bool (oneB true) fun w19 u19 m19 _ => ?_
   have m19' : Mod (fun b => b = bg) w18 w19 := m19
   have r19 := r18.mod m19' fun a ha e => by rw [s2b] at ha; cases ha; exact zbg (show bg = br from Eq.symm e)
   have zW12 := K12.size
   have fC17 : ∀ b, C3.has b → W.heap.size ≤ b ∧ ¬ A2.has b ∧ b ≠ bg ∧ b ≠ br ∧ b ≠ bl := fun b hb => by
    rcases f17 b hb with h' | h'
    ·obtain ⟨q1, q2, q3, q4, q5, _⟩ := fC12 b h'
     exact ⟨q1, q2, q3, q4, q5⟩
    ·exact ⟨by omega, fun h'' => by have := hA12.at_.lt h''; omega, by omega, by omega, by omega⟩
   have hC19 := (hC17.mod m18' fun b hb e => (fC17 b hb).2.2.2.1 e).mod m19' fun b hb e => (fC17 b hb).2.2.1 e
   have hA19 := (hA17.mod m18' fun b hb e => (fA12 b hb).2.2.1 e).mod m19' fun b hb e => (fA12 b hb).2.1 e
   have l19 := (l17.mod m18' (show ¬ bl = br by omega)).mod m19' (show ¬ bl = bg by omega)
   have K19 : Keep W w19 := (Mod.fresh K17 m18' fun b e => by omega).fresh m19' fun b e => by omega
   have zz : w7.heap.size ≤ w19.heap.size := by have := m17.size; have := m18.size; have := m19.size; omega
   show X (IntKind.wrap .i64 ((k : Int) + 1), ()) w19
   rw [wi_ k (by omega)]
   exact hX _ _ _ (by omega) ⟨k + 1, C3, A2, hk', rfl, rfl, by rw [hst]; exact hC19, by rw [gC17, gC12, gC9], by rw [hst]; exact hA19, by rw [gA12, gA9], by rw [hst]; exact u19, by rw [hst]; exact r19, l19, K19, fC17, fun b hb => by obtain ⟨q1, q3, q4, q5, _⟩ := fA12 b hb; exact ⟨q1, q3, q4, q5⟩, zz⟩
 ·have e : k = n := by omega
  subst e
  refine hQ w9 ⟨A', bl, s2⟩ ⟨by rw [gA9]; exact ol9, hA9, u2, hinv.rl⟩ K9 fun b hb => ?_
  rcases hb with hb | hb | ⟨a, ha, rfl⟩
  ·have hb' : b = bl := hb
   omega
  ·exact (fA9 b hb).1
  ·rw [show (LevS.mk A' bl s2).rs = s2 from rfl, s2b] at ha; cases ha; show W.heap.size ≤ br; omega
end Go.Proofs.YtjjgcimlmjnaeaaGreat
