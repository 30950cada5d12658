/-
  The document's Shortcuts, Worth and First.
-/
import Derived.Test.YtadacfoiphklgaaMqRank
import Derived.Test.YtadacfoiphklgaaMqRWit
namespace Go.Proofs.Ytadacfoiphklgaa
open Go Go.Den

section
variable {g n : Nat} {s : Sl} {L : List Arc} {W : World}
theorem rShortcuts_i {v : Int} {Q : Sl → World → Prop} (h : RNetIs W g s n L)
    (hQ : ∀ s w', Vec w' tArc 4 eArc s (shortL n L v) → Keep W w' → (∀ b, s.b = some b → W.heap.size ≤ b.block) → Q s w') : F_ref4_Net_Shortcuts (some ⟨g, 0, none⟩) v W Q := by
  unfold F_ref4_Net_Shortcuts
  have hL := h.ok
  have hn := h.sz
  have hLl := hL.len hn
  refine rIn_i h (by omega) fun s1 w1 v1 k1 f1 => ?_
  refine rOut_i (h.keep k1) (by omega) fun s2 w2 v2 k2 f2 => ?_
  have k02 := k1.tr k2
  have h2 := h.keep k02
  have v12 := v1.mod k2 fun _ _ => id
  have s1l := v1.len
  have s2l := v2.len
  have il := hL.in_len v
  have ol := hL.out_len v
  have slen : ∀ i, (((inL L v).take i).flatMap (fun a => shortP n L v a (outL L v))).length ≤ 262144 := fun i => by
    have h1 := short_len n L v ((inL L v).take i)
    have h2 : ((inL L v).take i).length ≤ 512 := by rw [List.length_take]; omega
    have : ((inL L v).take i).length * (outL L v).length ≤ 512 * 512 := Nat.mul_le_mul h2 (by omega)
    omega
  refine loop_i (fun c t w3 => ∃ (i : Nat) (s : Sl), i ≤ (inL L v).length ∧ c = (inL L v).length - i ∧ t = (s, (i : Int), ()) ∧ Vec w3 tArc 4 eArc s (((inL L v).take i).flatMap fun a => shortP n L v a (outL L v)) ∧ Keep w2 w3 ∧ (∀ b, s.b = some b → w2.heap.size ≤ b.block)) (inL L v).length
    ⟨0, _, Nat.zero_le _, rfl, rfl, by simpa using Vec.nil _ _ _ _, Mod.refl _ _, fun b hb => by cases hb⟩ ?_
  rintro c t w3 ⟨i, s, hi, rfl, rfl, hv, k3, fs⟩ X hX
  dsimp only
  refine cond_d (fun hlt => ?_) (fun hge => ?_)
  · have hi' : i < (inL L v).length := by omega
    have hia := List.getElem?_eq_getElem hi'
    have hmem := List.getElem_mem hi'
    have tk : ((inL L v).take (i + 1)).flatMap (fun a => shortP n L v a (outL L v)) = ((inL L v).take i).flatMap (fun a => shortP n L v a (outL L v)) ++ shortP n L v (inL L v)[i] (outL L v) := by
      rw [List.take_succ_eq_append_getElem hi', List.flatMap_append]; simp
    have hb1 := slen i
    generalize (inL L v)[i] = a at *
    generalize ((inL L v).take i).flatMap (fun a => shortP n L v a (outL L v)) = P at *
    obtain ⟨haL, hat⟩ := mem_inL.1 hmem
    obtain ⟨_, _, _, _, _, aw0, aw1, _⟩ := hL.may a haL
    refine loop_i (fun c t w6 => ∃ (j : Nat) (s' : Sl), j ≤ (outL L v).length ∧ c = (outL L v).length - j ∧ t = (s', (j : Int), ()) ∧ Vec w6 tArc 4 eArc s' (P ++ shortP n L v a ((outL L v).take j)) ∧ Keep w2 w6 ∧ (∀ b, s'.b = some b → w2.heap.size ≤ b.block)) (outL L v).length
      ⟨0, s, Nat.zero_le _, rfl, rfl, by simpa [shortP] using hv, k3, fs⟩ ?_
    rintro c t w6 ⟨j, s', hj, rfl, rfl, hv6, k6, fs6⟩ Y hY
    dsimp only
    refine cond_d (fun hlt2 => ?_) (fun hge2 => ?_)
    · have hj' : j < (outL L v).length := by omega
      have hjb := List.getElem?_eq_getElem hj'
      have hmemb := List.getElem_mem hj'
      have tkj : shortP n L v a ((outL L v).take (j + 1)) = shortP n L v a ((outL L v).take j) ++ (if needB n L v a (outL L v)[j] then [⟨a.f, (outL L v)[j].t, a.w + (outL L v)[j].w, v⟩] else []) := by
        rw [List.take_succ_eq_append_getElem hj', shortP_snoc]
      have hb2 := shortP_len n L v a ((outL L v).take j)
      have hb3 : ((outL L v).take j).length ≤ 512 := by rw [List.length_take]; omega
      generalize (outL L v)[j] = b at *
      generalize shortP n L v a ((outL L v).take j) = R at *
      obtain ⟨hbL, hbf⟩ := mem_outL.1 hmemb
      obtain ⟨_, _, _, _, _, bw0, bw1, _⟩ := hL.may b hbL
      have d6 : Keep w6 w6.drew := Mod.drew (Mod.refl _ w6)
      have K6 := k6.tr d6
      obtain ⟨p, hp, hh⟩ := rd_tup ((v12.mod K6 fun _ _ => id).rd lenA) hia
      obtain ⟨q, hq, hqh⟩ := rd_tup ((v2.mod K6 fun _ _ => id).rd lenA) hjb
      rw [Int.toNat_natCast, Int.toNat_natCast]
      have bi : 0 ≤ (i : Int) ∧ (i : Int) < (s1.l : Int) := ⟨by omega, by omega⟩
      have bj : 0 ≤ (j : Int) ∧ (j : Int) < (s2.l : Int) := ⟨by omega, by omega⟩
      refine ⟨bi, onSome_i hp (ld1_i (k := .int .i64) a.f hh.1 ⟨bj, onSome_i hq (ld1_i (k := .int .i64) b.t hqh.2.1 ⟨bi, onSome_i hp (ld1_i (k := .int .i64) a.w hh.2.2.1 ⟨bj, onSome_i hq (ld1_i (k := .int .i64) b.w hqh.2.2.1 ?_)⟩)⟩)⟩)⟩
      simp only [allocD]
      have kA := Keep.alloc w6.drew (.cells #[Value.int .i64 0, Value.int .i64 0, Value.int .i64 0, Value.int .i64 0] tArc)
      obtain ⟨p', hp', hh'⟩ := rd_tup (((v12.mod K6 fun _ _ => id).mod kA fun _ _ => id).rd lenA) hia
      obtain ⟨q', hq', hqh'⟩ := rd_tup (((v2.mod K6 fun _ _ => id).mod kA fun _ _ => id).rd lenA) hjb
      rw [hp] at hp'; cases hp'
      rw [hq] at hq'; cases hq'
      refine ⟨hqh'.2.2.1, hh'.2.2.1, hqh'.2.1, hh'.1, ?_⟩
      rw [w64 (n := a.w + b.w) (by omega) (by omega)]
      refine arc_copy (x := ⟨a.f, b.t, a.w + b.w, v⟩) fun w8 k8 o8 z8 => ?_
      have K8 := K6.tr k8
      have hv8 := (hv6.mod d6 fun _ _ => id).mod k8 fun _ _ => id
      generalize w6.drew.heap.size = b5 at *
      obtain ⟨a0, a1, a2, _⟩ := own_arc o8
      have next : ∀ w', Keep w8 w' → needB n L v a b = false → Y (s', IntKind.wrap .i64 ((j : Int) + 1), ()) w' := fun w' k' hn' => by
        rw [wi_ j (by omega)]
        exact hY _ _ _ (by omega) ⟨j + 1, s', hj', rfl, rfl, by rw [tkj, hn', if_neg (by simp), List.append_nil]; exact hv8.mod k' (fun _ _ => id), K8.tr k', fs6⟩
      refine ld1_i (k := .int .i64) a.f a0 (ld1_i (k := .int .i64) b.t a1 ?_)
      refine cond_i (fun hne => ?_) (fun heq => ?_)
      · have hne' : a.f ≠ b.t := by simpa using hne
        refine ld1_i (k := .int .i64) a.f a0 (ld1_i (k := .int .i64) b.t a1 (ld1_i (k := .int .i64) (a.w + b.w) a2 ?_))
        refine rWitness_i (h2.keep K8) (by omega) fun w9 k9 => ?_
        refine cond_i (fun hf => ?_) (fun hf => ?_)
        · have hneed : needB n L v a b = true := by unfold needB; rw [hf]; simp [hne']
          have o9 := o8.mod k9 id
          refine ldN_i (tupA ⟨a.f, b.t, a.w + b.w, v⟩) (own_all o9) ?_
          have hlit := Vec.lit w9 tArc eArc lenA [(⟨a.f, b.t, a.w + b.w, v⟩ : Arc)] #[Value.int .i64 a.f, Value.int .i64 b.t, Value.int .i64 (a.w + b.w), Value.int .i64 v] rfl (by simp [maxLen])
          have k10 := Keep.alloc w9 (.cells #[Value.int .i64 a.f, Value.int .i64 b.t, Value.int .i64 (a.w + b.w), Value.int .i64 v] tArc)
          refine append_i elem_sArc lenA oneA ((hv8.mod k9 fun _ _ => id).mod k10 (fun _ _ => id)) (hlit.rd lenA) (by rw [List.length_append]; simp only [List.length_singleton]; omega) (by rw [List.length_append]; simp only [List.length_singleton]; omega) fun r w11 v11 m11 f11 _ => ?_
          rw [wi_ j (by omega)]
          have K10 := (K8.tr k9).tr k10
          refine hY _ _ _ (by omega) ⟨j + 1, r, hj', rfl, rfl, by rw [tkj, hneed, if_pos rfl, ← List.append_assoc]; exact v11, K10.fresh m11 fun k ⟨b, hb, e⟩ => by subst e; exact fs6 b hb, fun b hb => ?_⟩
          rcases f11 with e | ⟨a', e, hle⟩
          · exact fs6 b (e ▸ hb)
          · rw [e] at hb; cases hb
            exact Nat.le_trans K10.size hle
        · have hf' : witB n L a.f b.t v (a.w + b.w) 30 = true := by simpa using hf
          exact next w9 k9 (by unfold needB; rw [hf']; simp)
      · have heq' : a.f = b.t := by simpa using heq
        exact next w8 (Mod.refl _ _) (by unfold needB; simp [heq'])
    · have e : j = (outL L v).length := by omega
      subst e
      rw [List.take_length] at hv6
      rw [wi_ i (by omega)]
      exact hX _ _ _ (by omega) ⟨i + 1, s', hi', rfl, rfl, by rw [tk]; exact hv6, k6, fs6⟩
  · have e : i = (inL L v).length := by omega
    subst e
    rw [List.take_length] at hv
    exact hQ s w3 hv (k02.tr k3) fun b hb => Nat.le_trans k02.size (fs b hb)

theorem rWorth_i {v : Int} {Q : Int → World → Prop} (h : RNetIs W g s n L) (hQ : ∀ w', Keep W w' → Q (worthL n L v) w') : F_ref4_Net_Worth (some ⟨g, 0, none⟩) v W Q := by
  unfold F_ref4_Net_Worth
  have hLl := h.ok.len h.sz
  refine rShortcuts_i h fun s w1 v1 k1 _ => ?_
  refine rIn_i (h.keep k1) (by omega) fun s2 w2 v2 k2 _ => ?_
  refine rOut_i ((h.keep k1).keep k2) (by omega) fun s3 w3 v3 k3 _ => ?_
  have l1 := v1.len
  have l2 := v2.len
  have l3 := v3.len
  have hb := short_bnd h.ok h.sz v
  have il := h.ok.in_len v
  have ol := h.ok.out_len v
  have hn := h.sz
  rw [l1, l2, l3, w64 (n := ((shortL n L v).length : Int) - ((inL L v).length : Int)) (by omega) (by omega), w64 (by omega) (by omega)]
  exact hQ w3 ((k1.tr k2).tr k3)

theorem rFirst_i {gone : Sl} {gs : List Bool} {Q : Int → World → Prop} (h : RNetIs W g s n L) (hg : Rd W gone 1 eB gs) (hgl : gs.length < 1000000) (hQ : ∀ w', Keep W w' → Q (firstL n L gs) w') : F_ref4_Net_First (some ⟨g, 0, none⟩) gone W Q := by
  unfold F_ref4_Net_First
  have hn := h.sz
  have gl := hg.len
  refine loop_i (fun c t w2 => ∃ (k : Nat) (z : Int × Int), k ≤ n ∧ c = n - k ∧ t = (z.2, z.1, (k : Int), ()) ∧ z.1 = (firstUpto n L gs k).1 ∧ (0 ≤ z.1 → z.2 = (firstUpto n L gs k).2) ∧ Keep W w2) n
    ⟨0, (-1, 0), Nat.zero_le _, rfl, rfl, rfl, fun _ => rfl, Mod.refl _ _⟩ ?_
  rintro c t w2 ⟨k, z, hk, rfl, rfl, hz1, hz2, k2⟩ X hX
  dsimp only
  refine onSome_i rfl (ld1_i (k := .int .i64) (n : Int) (h.keep k2).c0 ?_)
  refine cond_d (fun hlt => ?_) (fun hge => ?_)
  · have hk' : k < n := by omega
    have hs := firstUpto_succ n L gs k
    have next : ∀ w', Keep W w' → ∀ y : Int × Int, y.1 = (firstStep n L gs (firstUpto n L gs k) k).1 → (0 ≤ y.1 → y.2 = (firstStep n L gs (firstUpto n L gs k) k).2) → X (y.2, y.1, IntKind.wrap .i64 ((k : Int) + 1), ()) w' := fun w' k' y h1 h2 => by
      rw [wi_ k (by omega)]
      exact hX _ _ _ (by omega) ⟨k + 1, y, hk', rfl, rfl, by rw [hs]; exact h1, by rw [hs]; exact h2, k'⟩
    intro J hJ
    have go : isGone gs k = false → J () w2 := fun hg' => by
      apply hJ
      refine rWorth_i (h.keep k2) fun w4 k4 => ?_
      have K4 := k2.tr k4
      refine cond_d (fun h0 => ?_) (fun h0 => ?_)
      · have e : firstStep n L gs (firstUpto n L gs k) k = ((k : Int), worthL n L k) := by unfold firstStep; rw [hg', if_neg (by simp), if_pos (by rw [← hz1]; exact h0)]
        exact next w4 K4 ((k : Int), worthL n L k) (by rw [e]) fun _ => by rw [e]
      · have h0' : ¬ z.1 < 0 := h0
        have hz := hz2 (by omega)
        refine cond_d (fun hw => ?_) (fun hw => ?_)
        · have e : firstStep n L gs (firstUpto n L gs k) k = ((k : Int), worthL n L k) := by unfold firstStep; rw [hg', if_neg (by simp), if_neg (by rw [← hz1]; exact h0), if_pos (by rw [← hz]; exact hw)]
          exact next w4 K4 ((k : Int), worthL n L k) (by rw [e]) fun _ => by rw [e]
        · have e : firstStep n L gs (firstUpto n L gs k) k = firstUpto n L gs k := by unfold firstStep; rw [hg', if_neg (by simp), if_neg (by rw [← hz1]; exact h0), if_neg (by rw [← hz]; exact hw)]
          exact next w4 K4 z (by rw [e]; exact hz1) fun _ => by rw [e]; exact hz
    refine cond_d (fun hl => ?_) (fun hl => ?_)
    · have hkl : k < gs.length := by omega
      have hget : gs[k]? = some gs[k] := List.getElem?_eq_getElem hkl
      obtain ⟨p, hp, hc⟩ := rd_cell (k := .bool) (e := fun x => x) (hg.mod k2 (by simp) (fun _ _ => id)) hget
      have hgk : isGone gs k = gs[k] := by unfold isGone; rw [List.getD_eq_getElem?_getD, hget]; rfl
      rw [Int.toNat_natCast]
      refine ⟨⟨by omega, hl⟩, onSome_i hp (ld1_i (k := .bool) _ hc ?_)⟩
      refine cond_i (fun hb => ?_) (fun hb => go (hgk.trans hb))
      have e : firstStep n L gs (firstUpto n L gs k) k = firstUpto n L gs k := by unfold firstStep; rw [hgk, hb, if_pos rfl]
      exact next w2 k2 z (by rw [e]; exact hz1) fun h => by rw [e]; exact hz2 h
    · refine go ?_
      unfold isGone
      rw [List.getD_eq_getElem?_getD, List.getElem?_eq_none (by omega)]; rfl
  · have e : k = n := by omega
    subst e
    rw [show z.1 = firstL k L gs from hz1]
    exact hQ w2 k2
end
end Go.Proofs.Ytadacfoiphklgaa
