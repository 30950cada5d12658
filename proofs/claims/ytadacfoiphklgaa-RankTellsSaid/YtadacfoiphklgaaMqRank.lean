/-
  The program's Shortcuts, Worth and First.
-/
import Derived.Test.YtadacfoiphklgaaFRank
import Derived.Test.YtadacfoiphklgaaMqWit
import Derived.Test.YtadacfoiphklgaaMqMade
import Derived.Test.YtadacfoiphklgaaMpRank
namespace Go.Proofs.Ytadacfoiphklgaa
open Go Go.Den

theorem wi_ (i : Nat) (hi : i < 1099511627776) : IntKind.wrap .i64 ((i : Int) + 1) = ((i + 1 : Nat) : Int) := by rw [w64 (by omega) (by omega)]; rfl

/-- A copy of an arc, in a block of its own. -/
theorem arc_copy {w : World} {x : Arc} {K : World → Prop} (hK : ∀ w', Keep w w' → Own w' w.heap.size tArc (eArc x) → w.heap.size < w'.heap.size → K w') :
    storeD Try.prog tArc ⟨w.heap.size, 0, none⟩ (arcV x) (w.alloc (.cells #[Value.int .i64 0, Value.int .i64 0, Value.int .i64 0, Value.int .i64 0] tArc)) K := by
  have k := Keep.alloc w (.cells #[Value.int .i64 0, Value.int .i64 0, Value.int .i64 0, Value.int .i64 0] tArc)
  have o : Own (w.alloc (.cells #[Value.int .i64 0, Value.int .i64 0, Value.int .i64 0, Value.int .i64 0] tArc)) w.heap.size tArc (eArc ⟨0, 0, 0, 0⟩) := Own.alloc' w _ _
  exact zero_store o rfl fun w' o' m' => hK w' (Mod.fresh k m' fun b hb => by omega) o' o'.lt
theorem own_arc {w : World} {g : Nat} {x : Arc} (h : Own w g tArc (eArc x)) : w.cell? ((⟨g, 0, none⟩ : Addr).add 0) = some (.int .i64 x.f) ∧ w.cell? ((⟨g, 0, none⟩ : Addr).add 1) = some (.int .i64 x.t) ∧ w.cell? ((⟨g, 0, none⟩ : Addr).add 2) = some (.int .i64 x.w) ∧ w.cell? ((⟨g, 0, none⟩ : Addr).add 3) = some (.int .i64 x.m) := by
  refine ⟨?_, ?_, ?_, ?_⟩ <;> rw [addr_lit, h.cell] <;> rfl

theorem Shortcuts_i {N : NetS} {n : Nat} {L : List Arc} {v : Int} {W : World} {Q : Sl → World → Prop} (h : NetIs W N n L)
    (hQ : ∀ s w', Vec w' tArc 4 eArc s (shortL n L v) → Keep W w' → (∀ b, s.b = some b → W.heap.size ≤ b.block) → Q s w') : F_rank_Shortcuts (some ⟨N.g, 0, none⟩) v W Q := by
  unfold F_rank_Shortcuts
  have hL := h.ok
  have hn := h.sz
  refine Out_i h fun s1 w1 v1 k1 f1 => ?_
  refine In_i (h.keep k1) fun s2 w2 v2 k2 f2 => ?_
  have k02 := k1.tr k2
  have h2 := h.keep k02
  have v12 := v1.mod k2 fun _ _ => id
  have s1l := v1.len
  have s2l := v2.len
  have il := hL.in_len v
  have ol := hL.out_len v
  have slen : ∀ i, ((inL L v).take i).flatMap (fun a => shortP n L v a (outL L v)) = ((inL L v).take i).flatMap (fun a => shortP n L v a (outL L v)) ∧ (((inL L v).take i).flatMap (fun a => shortP n L v a (outL L v))).length ≤ 262144 := fun i => by
    refine ⟨rfl, ?_⟩
    have h1 := short_len n L v ((inL L v).take i)
    have h2 : ((inL L v).take i).length ≤ 512 := by rw [List.length_take]; omega
    have : ((inL L v).take i).length * (outL L v).length ≤ 512 * 512 := Nat.mul_le_mul h2 (by omega)
    omega
  refine loop_i (fun c t w3 => ∃ (i : Nat) (s : Sl), i ≤ (inL L v).length ∧ c = (inL L v).length - i ∧ t = (s, (i : Int), ()) ∧ Vec w3 tArc 4 eArc s (((inL L v).take i).flatMap fun a => shortP n L v a (outL L v)) ∧ Keep w2 w3 ∧ (∀ b, s.b = some b → w2.heap.size ≤ b.block)) (inL L v).length
    ⟨0, _, Nat.zero_le _, rfl, rfl, by simpa using Vec.nil _ _ _ _, Mod.refl _ _, fun b hb => by cases hb⟩ ?_
  rintro c t w3 ⟨i, s, hi, rfl, rfl, hv, k3, fs⟩ X hX
  dsimp only
  refine cond_d (fun hlt => ?_) (fun hge => ?_)
  · have hi' : i < (inL L v).length := by omega
    refine ⟨⟨by omega, by omega⟩, ?_⟩
    obtain ⟨p, hp, hh⟩ := rd_tup ((v2.mod k3 fun _ _ => id).rd lenA) (List.getElem?_eq_getElem hi')
    have hmem := List.getElem_mem hi'
    have tk : ((inL L v).take (i + 1)).flatMap (fun a => shortP n L v a (outL L v)) = ((inL L v).take i).flatMap (fun a => shortP n L v a (outL L v)) ++ shortP n L v (inL L v)[i] (outL L v) := by
      rw [List.take_succ_eq_append_getElem hi', List.flatMap_append]; simp
    have hb1 := (slen i).2
    generalize (inL L v)[i] = a at *
    generalize ((inL L v).take i).flatMap (fun a => shortP n L v a (outL L v)) = P at *
    obtain ⟨haL, hat⟩ := mem_inL.1 hmem
    obtain ⟨_, _, _, _, _, aw0, aw1, _⟩ := hL.may a haL
    refine onSome_i hp (ldN_i (tupA a) hh ?_)
    simp only [allocD]
    refine arc_copy fun w5 k5 o5 z5 => ?_
    have hv5 := hv.mod k5 fun _ _ => id
    have ne5 : ∀ b, s.b = some b → b.block ≠ w3.heap.size := fun b hb e => by have := hv.lt hb; omega
    have z23 := k3.size
    generalize w3.heap.size = b2 at *
    refine loop_i (fun c t w6 => ∃ (j : Nat) (s' : Sl), j ≤ (outL L v).length ∧ c = (outL L v).length - j ∧ t = (s', (j : Int), ()) ∧ Vec w6 tArc 4 eArc s' (P ++ shortP n L v a ((outL L v).take j)) ∧ Keep w2 w6 ∧ Own w6 b2 tArc (eArc a) ∧ (∀ b, s'.b = some b → w2.heap.size ≤ b.block ∧ b.block ≠ b2)) (outL L v).length
      ⟨0, s, Nat.zero_le _, rfl, rfl, by simpa [shortP] using hv5, k3.tr k5, o5, fun b hb => ⟨fs b hb, ne5 b hb⟩⟩ ?_
    rintro c t w6 ⟨j, s', hj, rfl, rfl, hv6, k6, o6, fs6⟩ Y hY
    dsimp only
    refine cond_d (fun hlt => ?_) (fun hge => ?_)
    · have hj' : j < (outL L v).length := by omega
      refine ⟨⟨by omega, by omega⟩, ?_⟩
      obtain ⟨p, hp, hh⟩ := rd_tup ((v12.mod k6 fun _ _ => id).rd lenA) (List.getElem?_eq_getElem hj')
      have hmemb := List.getElem_mem hj'
      have tkj : shortP n L v a ((outL L v).take (j + 1)) = shortP n L v a ((outL L v).take j) ++ (if needB n L v a (outL L v)[j] then [⟨a.f, (outL L v)[j].t, a.w + (outL L v)[j].w, v⟩] else []) := by
        rw [List.take_succ_eq_append_getElem hj', shortP_snoc]
      have hb2 := shortP_len n L v a ((outL L v).take j)
      have hb3 : ((outL L v).take j).length ≤ 512 := by rw [List.length_take]; omega
      generalize (outL L v)[j] = b at *
      generalize shortP n L v a ((outL L v).take j) = R at *
      obtain ⟨hbL, hbf⟩ := mem_outL.1 hmemb
      obtain ⟨_, _, _, _, _, bw0, bw1, _⟩ := hL.may b hbL
      refine onSome_i hp (ldN_i (tupA b) hh ?_)
      refine arc_copy fun w8 k8 o8 z8 => ?_
      have K8 := k6.tr k8
      have o8' := o6.mod k8 id
      have hv8 := hv6.mod k8 fun _ _ => id
      have ne8 : ∀ b, s'.b = some b → b.block ≠ w6.heap.size := fun b hb e => by have := hv6.lt hb; omega
      have z26 := k6.size
      have zb2 := o6.lt
      generalize w6.heap.size = b4 at *
      obtain ⟨a0, a1, a2, _⟩ := own_arc o8'
      obtain ⟨c0, c1, c2, _⟩ := own_arc o8
      have next : ∀ w', Keep w8 w' → needB n L v a b = false → Y (s', IntKind.wrap .i64 ((j : Int) + 1), ()) w' := fun w' k' hn' => by
        rw [wi_ j (by omega)]
        exact hY _ _ _ (by omega) ⟨j + 1, s', hj', rfl, rfl, by rw [tkj, hn', if_neg (by simp), List.append_nil]; exact hv8.mod k' (fun _ _ => id), K8.tr k', o8'.mod k' id, fs6⟩
      refine ld1_i (k := .int .i64) a.f a0 (ld1_i (k := .int .i64) b.t c1 ?_)
      refine cond_i (fun he => ?_) (fun he => ?_)
      · have he' : a.f = b.t := by simpa using he
        exact next w8 (Mod.refl _ _) (by unfold needB; simp [he'])
      · have he' : a.f ≠ b.t := by simpa using he
        refine ld1_i (k := .int .i64) a.f a0 (ld1_i (k := .int .i64) b.t c1 (ld1_i (k := .int .i64) a.w a2 (ld1_i (k := .int .i64) b.w c2 ?_)))
        rw [w64 (n := a.w + b.w) (by omega) (by omega)]
        refine Find_i (h2.keep K8) (by omega) fun w9 k9 => ?_
        refine cond_i (fun hf => ?_) (fun hf => ?_)
        · exact next w9 k9 (by unfold needB; rw [hf]; simp)
        · have hneed : needB n L v a b = true := by unfold needB; rw [hf]; simp [he']
          have o9 := o8'.mod k9 id
          have q9 := o8.mod k9 id
          obtain ⟨a0, a1, a2, _⟩ := own_arc o9
          obtain ⟨c0, c1, c2, _⟩ := own_arc q9
          refine ld1_i (k := .int .i64) a.f a0 (ld1_i (k := .int .i64) b.t c1 (ld1_i (k := .int .i64) a.w a2 (ld1_i (k := .int .i64) b.w c2 ?_)))
          rw [w64 (n := a.w + b.w) (by omega) (by omega)]
          have hlit := Vec.lit w9 tArc eArc lenA [(⟨a.f, b.t, a.w + b.w, v⟩ : Arc)] #[Value.int .i64 a.f, Value.int .i64 b.t, Value.int .i64 (a.w + b.w), Value.int .i64 v] rfl (by simp [maxLen])
          have k10 := Keep.alloc w9 (.cells #[Value.int .i64 a.f, Value.int .i64 b.t, Value.int .i64 (a.w + b.w), Value.int .i64 v] tArc)
          have o10 := o9.mod k10 id
          have zb2' := o9.lt
          refine append_i elem_sArc lenA oneA ((hv8.mod k9 fun _ _ => id).mod k10 (fun _ _ => id)) (hlit.rd lenA) (by rw [List.length_append]; simp only [List.length_singleton]; omega) (by rw [List.length_append]; simp only [List.length_singleton]; omega) fun r w11 v11 m11 f11 _ => ?_
          rw [wi_ j (by omega)]
          have K10 := (K8.tr k9).tr k10
          refine hY _ _ _ (by omega) ⟨j + 1, r, hj', rfl, rfl, by rw [tkj, hneed, if_pos rfl, ← List.append_assoc]; exact v11, K10.fresh m11 fun k ⟨b, hb, e⟩ => by subst e; exact (fs6 b hb).1, o10.mod m11 fun ⟨b, hb, e⟩ => (fs6 b hb).2 e.symm, fun b hb => ?_⟩
          rcases f11 with e | ⟨a', e, hle⟩
          · exact fs6 b (e ▸ hb)
          · rw [e] at hb; cases hb
            have := o10.lt
            exact ⟨Nat.le_trans K10.size hle, by omega⟩
    · have e : j = (outL L v).length := by omega
      subst e
      rw [List.take_length] at hv6
      rw [wi_ i (by omega)]
      exact hX _ _ _ (by omega) ⟨i + 1, s', hi', rfl, rfl, by rw [tk]; exact hv6, k6, fun b hb => (fs6 b hb).1⟩
  · have e : i = (inL L v).length := by omega
    subst e
    rw [List.take_length] at hv
    exact hQ s w3 hv (k02.tr k3) fun b hb => Nat.le_trans k02.size (fs b hb)

theorem Worth_i {N : NetS} {n : Nat} {L : List Arc} {v : Int} {W : World} {Q : Int → World → Prop} (h : NetIs W N n L) (hQ : ∀ w', Keep W w' → Q (worthL n L v) w') : F_rank_Worth (some ⟨N.g, 0, none⟩) v W Q := by
  unfold F_rank_Worth
  refine Shortcuts_i h fun s w1 v1 k1 _ => ?_
  refine In_i (h.keep k1) fun s2 w2 v2 k2 _ => ?_
  refine Out_i ((h.keep k1).keep k2) fun s3 w3 v3 k3 _ => ?_
  have l1 := v1.len
  have l2 := v2.len
  have l3 := v3.len
  have hb := short_bnd h.ok h.sz v
  have il := h.ok.in_len v
  have ol := h.ok.out_len v
  have hn := h.sz
  rw [l1, l2, l3, w64 (n := ((shortL n L v).length : Int) - ((inL L v).length : Int)) (by omega) (by omega), w64 (by omega) (by omega)]
  exact hQ w3 ((k1.tr k2).tr k3)

theorem First_i {N : NetS} {n : Nat} {L : List Arc} {gone : Sl} {gs : List Bool} {W : World} {Q : Int → World → Prop} (h : NetIs W N n L) (hg : Rd W gone 1 eB gs) (hgl : gs.length < 1000000) (hQ : ∀ w', Keep W w' → Q (firstL n L gs) w') : F_rank_First (some ⟨N.g, 0, none⟩) gone W Q := by
  unfold F_rank_First
  have hn := h.sz
  have gl := hg.len
  refine Len_i h ?_
  refine loop_i (fun c t w2 => ∃ (k : Nat), k ≤ n ∧ c = n - k ∧ t = ((firstUpto n L gs k).1, (firstUpto n L gs k).2, (k : Int), ()) ∧ Keep W w2) n
    ⟨0, Nat.zero_le _, rfl, rfl, Mod.refl _ _⟩ ?_
  rintro c t w2 ⟨k, hk, rfl, rfl, k2⟩ X hX
  dsimp only
  refine cond_d (fun hlt => ?_) (fun hge => ?_)
  · have hk' : k < n := by omega
    have hs := firstUpto_succ n L gs k
    have next : ∀ w', Keep W w' → ∀ z, firstStep n L gs (firstUpto n L gs k) k = z → X (z.1, z.2, IntKind.wrap .i64 ((k : Int) + 1), ()) w' := fun w' k' z hz => by
      rw [wi_ k (by omega)]
      exact hX _ _ _ (by omega) ⟨k + 1, hk', rfl, by rw [hs, hz], k'⟩
    intro J hJ
    have go : isGone gs k = false → J () w2 := fun hg' => by
      apply hJ
      refine Worth_i (h.keep k2) fun w4 k4 => ?_
      have K4 := k2.tr k4
      refine cond_d (fun h0 => ?_) (fun h0 => ?_)
      · exact next w4 K4 ((k : Int), worthL n L k) (by unfold firstStep; rw [hg', if_neg (by simp), if_pos h0])
      · refine cond_d (fun hw => ?_) (fun hw => ?_)
        · exact next w4 K4 ((k : Int), worthL n L k) (by unfold firstStep; rw [hg', if_neg (by simp), if_neg h0, if_pos hw])
        · exact next w4 K4 (firstUpto n L gs k) (by unfold firstStep; rw [hg', if_neg (by simp), if_neg h0, if_neg hw])
    refine cond_d (fun hl => ?_) (fun hl => ?_)
    · have hkl : k < gs.length := by omega
      have hget : gs[k]? = some gs[k] := List.getElem?_eq_getElem hkl
      obtain ⟨p, hp, hc⟩ := rd_cell (k := .bool) (e := fun x => x) (hg.mod k2 (by simp) (fun _ _ => id)) hget
      have hgk : isGone gs k = gs[k] := by unfold isGone; rw [List.getD_eq_getElem?_getD, hget]; rfl
      rw [Int.toNat_natCast]
      refine ⟨⟨by omega, hl⟩, onSome_i hp (ld1_i (k := .bool) _ hc ?_)⟩
      refine cond_i (fun hb => ?_) (fun hb => go (hgk.trans hb))
      exact next w2 k2 (firstUpto n L gs k) (by unfold firstStep; rw [hgk, hb, if_pos rfl])
    · refine go ?_
      unfold isGone
      rw [List.getD_eq_getElem?_getD, List.getElem?_eq_none (by omega)]; rfl
  · have e : k = n := by omega
    subst e
    exact hQ w2 k2
theorem First_none {gone : Sl} {W : World} {Q : Int → World → Prop} (hQ : Q (-1) W) : F_rank_First none gone W Q := by
  unfold F_rank_First
  refine Len_none ?_
  refine loop_i (fun _ t w2 => t = (-1, 0, 0, ()) ∧ w2 = W) 0 ⟨rfl, rfl⟩ ?_
  rintro c t w2 ⟨rfl, rfl⟩ X hX
  exact cond_d (fun h => by simp at h) (fun _ => hQ)
end Go.Proofs.Ytadacfoiphklgaa
