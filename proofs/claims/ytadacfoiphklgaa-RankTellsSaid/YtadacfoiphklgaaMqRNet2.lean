/-
  The document's net: a new one, what is cut, what is asked, a copy.
-/
import Derived.Test.YtadacfoiphklgaaMqRPut
namespace Go.Proofs.Ytadacfoiphklgaa
open Go Go.Den

theorem ArcsSame_i {a b : Sl} {xs ys : List Arc} {w : World} {Q : Bool → World → Prop} (ha : Rd w a 4 eArc xs) (hb : Rd w b 4 eArc ys) (hl : xs.length < 1099511627776) (hQ : ∀ (r : Bool) w', Keep w w' → (r = true ↔ xs = ys) → Q r w') : F_ref4_ArcsSame a b w Q := by
  unfold F_ref4_ArcsSame
  have la := ha.len
  have lb := hb.len
  refine cond_i (fun h => ?_) (fun h => ?_)
  · refine hQ false w (Mod.refl _ _) ⟨fun h => by simp at h, ?_⟩
    rintro rfl
    have : (a.l : Int) = (b.l : Int) := by omega
    simp [this] at h
  · have hlen : xs.length = ys.length := by
      have : (a.l : Int) = (b.l : Int) := by simpa using h
      omega
    refine loop_i (fun m t w' => ∃ i : Nat, i ≤ xs.length ∧ m = xs.length - i ∧ t = ((i : Int), ()) ∧ Keep w w' ∧ (∀ p, p < i → xs[p]? = ys[p]?)) xs.length
      ⟨0, Nat.zero_le _, rfl, rfl, Mod.refl _ _, fun p hp => by omega⟩ ?_
    rintro m t w' ⟨i, hi, rfl, rfl, hk, heq⟩ X hX
    dsimp only
    have d : Keep w' w'.drew := Mod.drew (Mod.refl _ w')
    have hk' := hk.tr d
    refine cond_d (fun hlt => ?_) (fun hge => ?_)
    · have hix : i < xs.length := by omega
      have hiy : i < ys.length := by omega
      obtain ⟨p, hp, hh⟩ := rd_tup (ha.mod hk' eArc_ne (fun _ _ => id)) (List.getElem?_eq_getElem hix)
      obtain ⟨q, hq, hh'⟩ := rd_tup (hb.mod hk' eArc_ne (fun _ _ => id)) (List.getElem?_eq_getElem hiy)
      refine ⟨⟨by omega, by omega⟩, onSome_i hp (ldN_i (tupA xs[i]) hh ⟨⟨by omega, by omega⟩, onSome_i hq (ldN_i (tupA ys[i]) hh' ?_)⟩)⟩
      have key : ((xs[i].f == ys[i].f) && ((xs[i].t == ys[i].t) && ((xs[i].w == ys[i].w) && ((xs[i].m == ys[i].m) && true)))) = decide (xs[i] = ys[i]) := by
        apply Bool.eq_iff_iff.2
        simp only [Bool.and_eq_true, beq_iff_eq, Bool.and_true, decide_eq_true_eq]
        generalize xs[i] = x
        generalize ys[i] = y
        cases x; cases y
        simp
      refine cond_i (fun h1 => ?_) (fun h1 => ?_)
      · refine hQ false _ hk' ⟨fun h => by simp at h, ?_⟩
        intro e
        have : decide (xs[i] = ys[i]) = true := by subst e; simp
        rw [← key] at this
        rw [this] at h1; cases h1
      · rw [w64 (by omega) (by omega)]
        have he : xs[i] = ys[i] := by
          have : decide (xs[i] = ys[i]) = true := by
            rw [← key]
            cases hb : ((xs[i].f == ys[i].f) && ((xs[i].t == ys[i].t) && ((xs[i].w == ys[i].w) && ((xs[i].m == ys[i].m) && true)))) with
            | true => rfl
            | false =>
              have h2 : (!((xs[i].f == ys[i].f) && ((xs[i].t == ys[i].t) && ((xs[i].w == ys[i].w) && ((xs[i].m == ys[i].m) && true))))) = false := h1
              rw [hb] at h2; cases h2
          simpa using this
        refine hX (xs.length - (i + 1)) _ _ (by omega) ⟨i + 1, hix, rfl, rfl, hk', fun p hp => ?_⟩
        rcases Nat.eq_or_lt_of_le (show p ≤ i by omega) with e | hlt
        · subst e; rw [List.getElem?_eq_getElem hix, List.getElem?_eq_getElem hiy, he]
        · exact heq p hlt
    · have hix : i = xs.length := by omega
      refine hQ true w' hk ⟨fun _ => ?_, fun _ => rfl⟩
      apply List.ext_getElem?
      intro p
      by_cases hp : p < i
      · exact heq p hp
      · rw [List.getElem?_eq_none (by omega), List.getElem?_eq_none (by omega)]

section
variable {w : World} {g : Nat} {s : Sl} {n : Nat} {l : List Arc}

/-- One arc more in a row of one's own. -/
theorem push_i {wX : World} {r : Sl} {xs : List Arc} {x : Arc} {K : Sl → World → Prop} (hv : Vec wX tArc 4 eArc r xs) (hl : xs.length < 1099511627776)
    (hK : ∀ r' w', Vec w' tArc 4 eArc r' (xs ++ [x]) → Mod (fun k => ∃ b, r.b = some b ∧ k = b.block) wX w' → (∀ b, r'.b = some b → r'.b = r.b ∨ wX.heap.size ≤ b.block) → K r' w') :
    appendD Try.prog tsArc tsArc r (.slice (some ⟨wX.heap.size, 0, none⟩) 1 1) (wX.alloc (.cells #[.int .i64 x.f, .int .i64 x.t, .int .i64 x.w, .int .i64 x.m] tArc)) K := by
  have k := Keep.alloc wX (.cells #[.int .i64 x.f, .int .i64 x.t, .int .i64 x.w, .int .i64 x.m] tArc)
  have o : Own (wX.alloc (.cells #[.int .i64 x.f, .int .i64 x.t, .int .i64 x.w, .int .i64 x.m] tArc)) wX.heap.size tArc (eArc x) := Own.alloc' wX _ _
  have rv : Rd (wX.alloc (.cells #[.int .i64 x.f, .int .i64 x.t, .int .i64 x.w, .int .i64 x.m] tArc)) ⟨some ⟨wX.heap.size, 0, none⟩, 1, 1⟩ 4 eArc [x] :=
    (Vec.mk rfl (Nat.le_refl _) (by simp [maxLen]) (.inr ⟨wX.heap.size, [], rfl, by simpa using o, rfl⟩) : Vec _ tArc 4 eArc ⟨some ⟨wX.heap.size, 0, none⟩, 1, 1⟩ [x]).rd lenA
  refine append_i elem_sArc lenA oneA (hv.mod k (fun _ _ => id)) rv (by simp; omega) (by simp; omega) fun r' w' h1 h2 h3 _ => hK r' w' h1 (k.wk.tr h2) fun b hb => h3.imp id fun ⟨b', hb', hlt⟩ => ?_
  rw [hb'] at hb; cases hb; exact Nat.le_trans k.size hlt

theorem rCut_i {v : Int} {Q : World → Prop} (h : RNetIs w g s n l) (hl : l.length < 1099511627776)
    (hQ : ∀ w' s', RNetIs w' g s' n (cutL l v) → Mod (fun k => k = g) w w' → (∀ b, s'.b = some b → w.heap.size ≤ b.block) → Q w') : F_ref4_Net_Cut (some ⟨g, 0, none⟩) v w Q := by
  unfold F_ref4_Net_Cut
  have hsl := h.vec.len
  refine loop_i (fun m t w' => ∃ (i : Nat) (r : Sl), i ≤ l.length ∧ m = l.length - i ∧ t = (r, (i : Int), ()) ∧ Keep w w' ∧ Vec w' tArc 4 eArc r (cutL (l.take i) v) ∧ (∀ b, r.b = some b → w.heap.size ≤ b.block)) l.length
    ⟨0, ⟨none, 0, 0⟩, Nat.zero_le _, rfl, rfl, Mod.refl _ _, by simpa [cutL] using Vec.nil w tArc 4 eArc, fun b hb => by cases hb⟩ ?_
  rintro m t w' ⟨i, r, hi, rfl, rfl, hk, hv, hf⟩ X hX
  dsimp only
  have h' := h.keep hk
  refine onSome_i rfl (ld1_i (k := .slice) s h'.c1 ?_)
  refine cond_d (fun hlt => ?_) (fun hge => ?_)
  · have hil : i < l.length := by omega
    obtain ⟨a, ha, hh⟩ := (h'.vec.rd lenA).get i l[i] (List.getElem?_eq_getElem hil)
    have cf := (holds_iff.1 hh) 0 _ rfl
    have ct := (holds_iff.1 hh) 1 _ rfl
    rw [w64 (n := (i : Int) + 1) (by omega) (by omega)]
    have htk : cutL (l.take (i + 1)) v = cutL (l.take i) v ++ cutL [l[i]] v := by unfold cutL; rw [List.take_succ_eq_append_getElem hil, List.filter_append]
    have hlen : (cutL (l.take i) v).length ≤ l.length := Nat.le_trans (List.length_filter_le _ _) (by simp; omega)
    have skip : ¬ (l[i].f ≠ v ∧ l[i].t ≠ v) → X (r, (i : Int) + 1, ()) w' := fun hn => by
      refine hX (l.length - (i + 1)) _ _ (by omega) ⟨i + 1, r, hil, rfl, rfl, hk, ?_, hf⟩
      have : cutL [l[i]] v = [] := by simp only [cutL, List.filter_cons, List.filter_nil]; rw [if_neg (by simpa using hn)]
      rw [htk, this, List.append_nil]; exact hv
    refine onSome_i rfl (ld1_i (k := .slice) s h'.c1 ⟨⟨by omega, by omega⟩, onSome_i ha (ld1_i (k := .int .i64) l[i].f cf ?_)⟩)
    refine cond_i (fun h1 => ?_) (fun h1 => skip fun hn => hn.1 (by simpa using h1))
    have h1 : l[i].f ≠ v := by simpa using h1
    refine onSome_i rfl (ld1_i (k := .slice) s h'.c1 ⟨⟨by omega, by omega⟩, onSome_i ha (ld1_i (k := .int .i64) l[i].t ct ?_)⟩)
    refine cond_i (fun h2 => ?_) (fun h2 => skip fun hn => hn.2 (by simpa using h2))
    have h2 : l[i].t ≠ v := by simpa using h2
    refine onSome_i rfl (ld1_i (k := .slice) s h'.c1 ⟨⟨by omega, by omega⟩, onSome_i ha (ldN_i (tupA l[i]) hh ?_)⟩)
    simp only [allocD]
    refine push_i hv (by omega) fun r' w2 hv2 m2 hf2 => ?_
    refine hX (l.length - (i + 1)) _ _ (by omega) ⟨i + 1, r', hil, rfl, rfl, Mod.fresh hk m2 (fun k ⟨b, hb, hk'⟩ => by rw [hk']; exact hf b hb), ?_, fun b hb => ?_⟩
    · have : cutL [l[i]] v = [l[i]] := by simp only [cutL, List.filter_cons, List.filter_nil]; rw [if_pos (by simp [h1, h2])]
      rw [htk, this]; exact hv2
    · rcases hf2 b hb with e | e
      · exact hf b (e ▸ hb)
      · exact Nat.le_trans hk.size e
  · have hil : i = l.length := by omega
    subst hil
    rw [List.take_length] at hv
    exact onSome_i rfl (h.head_i hk hv hf (h.ok.cut v) fun w2 h2 m2 _ => hQ w2 r h2 m2 hf)

theorem rIn_i {v : Int} {Q : Sl → World → Prop} (h : RNetIs w g s n l) (hl : l.length < 1099511627776)
    (hQ : ∀ r w', Vec w' tArc 4 eArc r (inL l v) → Keep w w' → (∀ b, r.b = some b → w.heap.size ≤ b.block) → Q r w') : F_ref4_Net_In (some ⟨g, 0, none⟩) v w Q := by
  unfold F_ref4_Net_In
  have hsl := h.vec.len
  refine loop_i (fun m t w' => ∃ (i : Nat) (r : Sl), i ≤ l.length ∧ m = l.length - i ∧ t = (r, (i : Int), ()) ∧ Keep w w' ∧ Vec w' tArc 4 eArc r (inL (l.take i) v) ∧ (∀ b, r.b = some b → w.heap.size ≤ b.block)) l.length
    ⟨0, ⟨none, 0, 0⟩, Nat.zero_le _, rfl, rfl, Mod.refl _ _, by simpa [inL] using Vec.nil w tArc 4 eArc, fun b hb => by cases hb⟩ ?_
  rintro m t w' ⟨i, r, hi, rfl, rfl, hk, hv, hf⟩ X hX
  dsimp only
  have h' := h.keep hk
  refine onSome_i rfl (ld1_i (k := .slice) s h'.c1 ?_)
  refine cond_d (fun hlt => ?_) (fun hge => ?_)
  · have hil : i < l.length := by omega
    obtain ⟨a, ha, hh⟩ := (h'.vec.rd lenA).get i l[i] (List.getElem?_eq_getElem hil)
    have ct := (holds_iff.1 hh) 1 _ rfl
    rw [w64 (n := (i : Int) + 1) (by omega) (by omega)]
    have htk : inL (l.take (i + 1)) v = inL (l.take i) v ++ inL [l[i]] v := by unfold inL; rw [List.take_succ_eq_append_getElem hil, List.filter_append]
    have hlen : (inL (l.take i) v).length ≤ l.length := Nat.le_trans (List.length_filter_le _ _) (by simp; omega)
    refine onSome_i rfl (ld1_i (k := .slice) s h'.c1 ⟨⟨by omega, by omega⟩, onSome_i ha (ld1_i (k := .int .i64) l[i].t ct ?_)⟩)
    refine cond_i (fun h1 => ?_) (fun h1 => ?_)
    · have h1 : l[i].t = v := by simpa using h1
      refine onSome_i rfl (ld1_i (k := .slice) s h'.c1 ⟨⟨by omega, by omega⟩, onSome_i ha (ldN_i (tupA l[i]) hh ?_)⟩)
      simp only [allocD]
      refine push_i hv (by omega) fun r' w2 hv2 m2 hf2 => ?_
      refine hX (l.length - (i + 1)) _ _ (by omega) ⟨i + 1, r', hil, rfl, rfl, Mod.fresh hk m2 (fun k ⟨b, hb, hk'⟩ => by rw [hk']; exact hf b hb), ?_, fun b hb => ?_⟩
      · have : inL [l[i]] v = [l[i]] := by simp [inL, h1]
        rw [htk, this]; exact hv2
      · rcases hf2 b hb with e | e
        · exact hf b (e ▸ hb)
        · exact Nat.le_trans hk.size e
    · have h1 : l[i].t ≠ v := by simpa using h1
      refine hX (l.length - (i + 1)) _ _ (by omega) ⟨i + 1, r, hil, rfl, rfl, hk, ?_, hf⟩
      have : inL [l[i]] v = [] := by simp [inL, h1]
      rw [htk, this, List.append_nil]; exact hv
  · have hil : i = l.length := by omega
    subst hil
    rw [List.take_length] at hv
    exact hQ r w' hv hk hf

/-- What goes from a number stands together. -/
theorem outL_run {i : Nat} {v : Int} (hs : LSrt l) (low : LowL l v (-1) i) (hmay : ∀ a ∈ l, mayA n a) : ∀ j, i ≤ j → j ≤ l.length → (∀ p x, i ≤ p → p < j → l[p]? = some x → x.f = v) → ((l.drop i).take (j - i) = outL (l.take j) v) := by
  intro j hij hj hall
  have h1 : l.take j = l.take i ++ (l.drop i).take (j - i) := by
    have : j = i + (j - i) := by omega
    conv => lhs; rw [this, List.take_add]
  rw [h1]
  unfold outL
  rw [List.filter_append]
  have e1 : (l.take i).filter (fun x => decide (x.f = v)) = [] := List.filter_eq_nil_iff.2 fun x hx hxv => by
    obtain ⟨p, hp⟩ := List.mem_iff_getElem?.1 hx
    have hlt : p < i := by have := (List.getElem?_eq_some_iff.1 hp).1; simp at this; omega
    rw [List.getElem?_take_of_lt hlt] at hp
    have h2 := low.lo p x hlt hp
    have h3 := (hmay x (List.mem_of_getElem? hp)).2.2.1
    have h4 : x.f = v := by simpa using hxv
    omega
  have e2 : ((l.drop i).take (j - i)).filter (fun x => decide (x.f = v)) = (l.drop i).take (j - i) := List.filter_eq_self.2 fun x hx => by
    obtain ⟨p, hp⟩ := List.mem_iff_getElem?.1 hx
    have hlt : p < j - i := by have := (List.getElem?_eq_some_iff.1 hp).1; simp at this; omega
    rw [List.getElem?_take_of_lt hlt, List.getElem?_drop] at hp
    simpa using hall (i + p) x (by omega) (by omega) hp
  rw [e1, e2, List.nil_append]

theorem rOut_i {v : Int} {Q : Sl → World → Prop} (h : RNetIs w g s n l) (hl : l.length < 1099511627776)
    (hQ : ∀ r w', Vec w' tArc 4 eArc r (outL l v) → Keep w w' → (∀ b, r.b = some b → w.heap.size ≤ b.block) → Q r w') : F_ref4_Net_Out (some ⟨g, 0, none⟩) v w Q := by
  unfold F_ref4_Net_Out
  have hsl := h.vec.len
  refine rFind_i h hl fun i0 _ w1 k1 low _ => ?_
  have hle := low.le
  refine loop_i (fun m t w' => ∃ (j : Nat) (r : Sl), i0 ≤ j ∧ j ≤ l.length ∧ m = l.length - j ∧ t = ((j : Int), r, ()) ∧ Keep w w' ∧ Vec w' tArc 4 eArc r ((l.drop i0).take (j - i0)) ∧ (∀ b, r.b = some b → w.heap.size ≤ b.block) ∧ (∀ p x, i0 ≤ p → p < j → l[p]? = some x → x.f = v)) (l.length - i0)
    ⟨i0, ⟨none, 0, 0⟩, Nat.le_refl _, hle, rfl, rfl, k1, by simpa using Vec.nil w1 tArc 4 eArc, (fun b hb => by cases hb), fun p x h1 h2 => by omega⟩ ?_
  rintro m t w' ⟨j, r, hij, hj, rfl, rfl, hk, hv, hf, hall⟩ X hX
  dsimp only
  have h' := h.keep hk
  have fin : (∀ p x, j ≤ p → l[p]? = some x → x.f ≠ v) → Q r w' := fun hno => by
    rw [outL_run h.ok.srt low h.ok.may j hij hj hall] at hv
    have e : outL l v = outL (l.take j) v := by
      conv => lhs; rw [← List.take_append_drop j l]
      unfold outL
      rw [List.filter_append]
      have : (l.drop j).filter (fun x => decide (x.f = v)) = [] := List.filter_eq_nil_iff.2 fun x hx hxv => by
        obtain ⟨p, hp⟩ := List.mem_iff_getElem?.1 hx
        rw [List.getElem?_drop] at hp
        exact hno (j + p) x (by omega) hp (by simpa using hxv)
      rw [this, List.append_nil]
    rw [← e] at hv
    exact hQ r w' hv hk hf
  refine onSome_i rfl (ld1_i (k := .slice) s h'.c1 ?_)
  refine cond_d (fun hlt => ?_) (fun hge => ?_)
  · have hjl : j < l.length := by omega
    obtain ⟨a, ha, hh⟩ := (h'.vec.rd lenA).get j l[j] (List.getElem?_eq_getElem hjl)
    have cf := (holds_iff.1 hh) 0 _ rfl
    refine onSome_i rfl (ld1_i (k := .slice) s h'.c1 ⟨⟨by omega, by omega⟩, onSome_i ha (ld1_i (k := .int .i64) l[j].f cf ?_)⟩)
    refine cond_i (fun h1 => ?_) (fun h1 => ?_)
    · have h1 : l[j].f = v := by simpa using h1
      refine onSome_i rfl (ld1_i (k := .slice) s h'.c1 ⟨⟨by omega, by omega⟩, onSome_i ha (ldN_i (tupA l[j]) hh ?_)⟩)
      simp only [allocD]
      refine push_i hv (by simp; omega) fun r' w2 hv2 m2 hf2 => ?_
      rw [w64 (n := (j : Int) + 1) (by omega) (by omega)]
      refine hX (l.length - (j + 1)) _ _ (by omega) ⟨j + 1, r', by omega, hjl, rfl, rfl, Mod.fresh hk m2 (fun k ⟨b, hb, hk'⟩ => by rw [hk']; exact hf b hb), ?_, fun b hb => ?_, fun p x hp1 hp2 hx => ?_⟩
      · have : (l.drop i0).take (j + 1 - i0) = (l.drop i0).take (j - i0) ++ [l[j]] := by
          rw [show j + 1 - i0 = (j - i0) + 1 by omega, List.take_succ_eq_append_getElem (by simp; omega)]
          congr 2
          rw [List.getElem_drop]
          congr 1; omega
        rw [this]; exact hv2
      · rcases hf2 b hb with e | e
        · exact hf b (e ▸ hb)
        · exact Nat.le_trans hk.size e
      · rcases Nat.eq_or_lt_of_le (show p ≤ j by omega) with e | e
        · subst e; rw [List.getElem?_eq_getElem hjl] at hx; cases hx; exact h1
        · exact hall p x hp1 e hx
    · have h1 : l[j].f ≠ v := by simpa using h1
      refine fin fun p x hp hx hxv => ?_
      have hlo := low.hi j l[j] hij (List.getElem?_eq_getElem hjl)
      have hma := (h.ok.may l[j] (List.getElem_mem hjl)).2.2.1
      rcases Nat.eq_or_lt_of_le hp with e | e
      · subst e; rw [List.getElem?_eq_getElem hjl] at hx; cases hx; exact h1 hxv
      · have := h.ok.srt.get e (List.getElem?_eq_getElem hjl) hx
        omega
  · exact fin fun p x hp hx => by have := (List.getElem?_eq_some_iff.1 hx).1; omega

end

theorem NewNet_i {n : Int} {s : Sl} {xs : List Arc} {w : World} {Q : Option Addr → World → Prop} (hr : Rd w s 4 eArc xs) (hlen : xs.length < 1099511627776) (hcap : ∀ m i, (putAll m [] (xs.take i)).length < 1099511627776)
    (hbad : ∀ w', Keep w w' → ¬ (0 ≤ n ∧ n ≤ 512 ∧ ∀ a ∈ xs, mayA n.toNat a) → Q none w')
    (hok : ∀ w' g s', 0 ≤ n → n ≤ 512 → (∀ a ∈ xs, mayA n.toNat a) → RNetIs w' g s' n.toNat (putAll n.toNat [] xs) → Keep w w' → (∀ k, rhas g s' k → w.heap.size ≤ k) → Q (some ⟨g, 0, none⟩) w') : F_ref4_NewNet n s w Q := by
  unfold F_ref4_NewNet
  have hl := hr.len
  refine within_i fun r hr0 => cond_i (fun hb => ?_) (fun hb => ?_)
  · exact hbad w (Mod.refl _ _) fun hn => by rw [hr0.2 ⟨hn.1, hn.2.1⟩] at hb; cases hb
  have hn := hr0.1 (by cases r <;> simp at hb ⊢)
  obtain ⟨m, rfl⟩ : ∃ m : Nat, n = (m : Int) := ⟨n.toNat, by omega⟩
  have hm : m ≤ 512 := by omega
  simp only [Int.toNat_natCast] at hbad hok
  simp only [allocD]
  have k1 := Keep.alloc w (.cells #[Value.int .i64 (m : Int), Value.slice none 0 0] 57)
  have o1 : Own (w.alloc (.cells #[Value.int .i64 (m : Int), Value.slice none 0 0] 57)) w.heap.size tRNet [.int .i64 (m : Int), sv ⟨none, 0, 0⟩] := Own.alloc' w _ _
  have h0 : RNetIs (w.alloc (.cells #[Value.int .i64 (m : Int), Value.slice none 0 0] 57)) w.heap.size ⟨none, 0, 0⟩ m [] := ⟨o1, Vec.nil _ _ _ _, (fun a ha => by cases ha), OkL.nil m, hm⟩
  generalize w.alloc (.cells #[Value.int .i64 (m : Int), Value.slice none 0 0] 57) = w1 at *
  refine loop_i (fun c t w2 => ∃ i : Nat, i ≤ xs.length ∧ c = xs.length - i ∧ t = ((i : Int), ()) ∧ Keep w1 w2 ∧ (∀ a ∈ xs.take i, mayA m a)) xs.length
    ⟨0, Nat.zero_le _, rfl, rfl, Mod.refl _ _, by simp⟩ ?_
  rintro c t w2 ⟨i, hi, rfl, rfl, k2, hmay⟩ X hX
  dsimp only
  have h2 := h0.keep k2
  refine cond_d (fun hlt => ?_) (fun hge => ?_)
  · have hi' : i < xs.length := by omega
    obtain ⟨a, ha, hh⟩ := rd_tup (hr.mod (k1.tr k2) eArc_ne (fun _ _ => id)) (List.getElem?_eq_getElem hi')
    refine ⟨⟨by omega, by omega⟩, onSome_i ha (ldN_i (tupA xs[i]) hh ?_)⟩
    refine rmay_i h2.head hm fun w3 r k3 hr3 => cond_i (fun hb => ?_) (fun hb => ?_)
    · exact hbad w3 ((k1.tr k2).tr k3) fun hall => by rw [hr3.2 (hall.2.2 _ (List.getElem_mem hi'))] at hb; cases hb
    · rw [w64 (by omega) (by omega)]
      refine hX (xs.length - (i + 1)) _ _ (by omega) ⟨i + 1, hi', rfl, rfl, k2.tr k3, ?_⟩
      rw [List.take_succ_eq_append_getElem hi']
      intro x hx
      rcases List.mem_append.1 hx with hx | hx
      · exact hmay x hx
      · simp at hx; subst hx; exact hr3.1 (by cases r <;> simp at hb ⊢)
  · have hi' : i = xs.length := by omega
    subst hi'
    rw [List.take_length] at hmay
    refine loop_i (fun c t w5 => ∃ (i : Nat) (s' : Sl), i ≤ xs.length ∧ c = xs.length - i ∧ t = ((i : Int), ()) ∧ RNetIs w5 w.heap.size s' m (putAll m [] (xs.take i)) ∧ Keep w w5 ∧ (∀ k, rhas w.heap.size s' k → w.heap.size ≤ k)) xs.length
      ⟨0, ⟨none, 0, 0⟩, Nat.zero_le _, rfl, rfl, by simpa [putAll] using h2, k1.tr k2, fun k hk => ?_⟩ ?_
    · rcases hk with rfl | ⟨a, ha, _⟩
      · exact Nat.le_refl _
      · cases ha
    rintro c t w5 ⟨i, s', hi, rfl, rfl, h5, k5, hf5⟩ Y hY
    dsimp only
    refine cond_d (fun hlt => ?_) (fun hge => ?_)
    · have hi' : i < xs.length := by omega
      obtain ⟨a, ha, hh⟩ := rd_tup (hr.mod k5 eArc_ne (fun _ _ => id)) (List.getElem?_eq_getElem hi')
      refine ⟨⟨by omega, by omega⟩, onSome_i ha (ldN_i (tupA xs[i]) hh ?_)⟩
      refine rPut_i h5 (hcap m i) fun w6 s6 h6 m6 hf6 => ?_
      rw [w64 (by omega) (by omega)]
      refine hY (xs.length - (i + 1)) _ _ (by omega) ⟨i + 1, s6, hi', rfl, rfl, ?_, Mod.fresh k5 m6 (fun k hk => by rw [hk]; exact Nat.le_refl _), fun k hk => ?_⟩
      · rw [List.take_succ_eq_append_getElem hi', putAll_snoc]; exact h6
      · rcases hk with rfl | ⟨b, hb, rfl⟩
        · exact Nat.le_refl _
        · rcases hf6 b hb with e | e
          · exact hf5 _ (.inr ⟨b, e ▸ hb, rfl⟩)
          · exact Nat.le_trans k5.size e
    · have hi' : i = xs.length := by omega
      subst hi'
      rw [List.take_length] at h5
      exact hok w5 _ s' (by omega) (by omega) hmay h5 k5 hf5
end Go.Proofs.Ytadacfoiphklgaa
