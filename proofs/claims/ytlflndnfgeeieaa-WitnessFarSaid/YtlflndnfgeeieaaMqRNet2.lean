/-
  The document's net: a new one, what is cut, what is asked, a copy.
-/
import Derived.Test.YtlflndnfgeeieaaMqRPut
namespace Go.Proofs.Ytlflndnfgeeieaa
open Go Go.Den

section
variable {w : World} {g : Nat} {s : Sl} {n : Nat} {l : List Arc}

/-- One arc more in a row of one's own. -/
theorem push_i {wX : World} {r : Sl} {xs : List Arc} {x : Arc} {K : Sl → World → Prop} (hv : Vec wX tArc 4 eArc r xs) (hl : xs.length < 1099511627776)
    (hK : ∀ r' w', Vec w' tArc 4 eArc r' (xs ++ [x]) → Mod (fun k => ∃ b, r.b = some b ∧ k = b.block) wX w' → (∀ b, r'.b = some b → r'.b = r.b ∨ wX.heap.size ≤ b.block) → K r' w') :
    appendD Try.prog tsArc tsArc r (.slice (some ⟨wX.heap.size, 0, none⟩) 1 1) (wX.alloc (.cells #[.int .i64 x.f, .int .i64 x.t, .int .i64 x.w, .int .i64 x.m] tArc)) K := by
  have k := Keep.alloc wX (.cells #[.int .i64 x.f, .int .i64 x.t, .int .i64 x.w, .int .i64 x.m] tArc)
  have o : Own (wX.alloc (.cells #[.int .i64 x.f, .int .i64 x.t, .int .i64 x.w, .int .i64 x.m] tArc)) wX.heap.size tArc (eArc x) := Own.alloc' wX _ _
  have rv : Rd (wX.alloc (.cells #[.int .i64 x.f, .int .i64 x.t, .int .i64 x.w, .int .i64 x.m] tArc)) ⟨some ⟨wX.heap.size, 0, none⟩, 1, 1⟩ 4 eArc [x] :=
    (Vec.mk rfl (Nat.le_refl _) (by simp [maxLen]) (.inr ⟨wX.heap.size, [], rfl, by simpa using o, rfl⟩) : Vec _ tArc 4 eArc ⟨some ⟨wX.heap.size, 0, none⟩, 1, 1⟩ [x]).rd lenA
  refine append_i elem_sArc lenA oneA (hv.mod k (fun _ _ => id)) rv (by simp; omega) (by simp; omega) fun r' w' h1 h2 h3 _ => hK r' w' h1 (k.wk.tr h2) fun b hb => h3.imp id fun ⟨b', hb', hlt⟩ => ?_
  rw [hb'] at hb; cases hb; exact Nat.le_trans k.size hlt

theorem rCut_i {v : Int} {Q : World → Prop} (h : RNetIs w g s n l) (hl : l.length < 1099511627776)
    (hQ : ∀ w' s', RNetIs w' g s' n (cutL l v) → Mod (fun k => k = g) w w' → (∀ b, s'.b = some b → w.heap.size ≤ b.block) → Q w') : F_ref4_Net_Cut (some ⟨g, 0, none⟩) v w Q := by
  unfold F_ref4_Net_Cut
  have hsl := h.vec.len
  refine loop_i (fun m t w' => ∃ (i : Nat) (r : Sl), i ≤ l.length ∧ m = l.length - i ∧ t = (r, (i : Int), ()) ∧ Keep w w' ∧ Vec w' tArc 4 eArc r (cutL (l.take i) v) ∧ (∀ b, r.b = some b → w.heap.size ≤ b.block)) l.length
    ⟨0, ⟨none, 0, 0⟩, Nat.zero_le _, rfl, rfl, Mod.refl _ _, by simpa [cutL] using Vec.nil w tArc 4 eArc, fun b hb => by cases hb⟩ ?_
  rintro m t w' ⟨i, r, hi, rfl, rfl, hk, hv, hf⟩ X hX
  dsimp only
  have h' := h.keep hk
  refine onSome_i rfl (ld1_i (k := .slice) s h'.c1 ?_)
  refine cond_d (fun hlt => ?_) (fun hge => ?_)
  · have hil : i < l.length := by omega
    obtain ⟨a, ha, hh⟩ := (h'.vec.rd lenA).get i l[i] (List.getElem?_eq_getElem hil)
    have cf := (holds_iff.1 hh) 0 _ rfl
    have ct := (holds_iff.1 hh) 1 _ rfl
    rw [w64 (n := (i : Int) + 1) (by omega) (by omega)]
    have htk : cutL (l.take (i + 1)) v = cutL (l.take i) v ++ cutL [l[i]] v := by unfold cutL; rw [List.take_succ_eq_append_getElem hil, List.filter_append]
    have hlen : (cutL (l.take i) v).length ≤ l.length := Nat.le_trans (List.length_filter_le _ _) (by simp; omega)
    have skip : ¬ (l[i].f ≠ v ∧ l[i].t ≠ v) → X (r, (i : Int) + 1, ()) w' := fun hn => by
      refine hX (l.length - (i + 1)) _ _ (by omega) ⟨i + 1, r, hil, rfl, rfl, hk, ?_, hf⟩
      have : cutL [l[i]] v = [] := by simp only [cutL, List.filter_cons, List.filter_nil]; rw [if_neg (by simpa using hn)]
      rw [htk, this, List.append_nil]; exact hv
    refine onSome_i rfl (ld1_i (k := .slice) s h'.c1 ⟨⟨by omega, by omega⟩, onSome_i ha (ld1_i (k := .int .i64) l[i].f cf ?_)⟩)
    refine cond_i (fun h1 => ?_) (fun h1 => skip fun hn => hn.1 (by simpa using h1))
    have h1 : l[i].f ≠ v := by simpa using h1
    refine onSome_i rfl (ld1_i (k := .slice) s h'.c1 ⟨⟨by omega, by omega⟩, onSome_i ha (ld1_i (k := .int .i64) l[i].t ct ?_)⟩)
    refine cond_i (fun h2 => ?_) (fun h2 => skip fun hn => hn.2 (by simpa using h2))
    have h2 : l[i].t ≠ v := by simpa using h2
    refine onSome_i rfl (ld1_i (k := .slice) s h'.c1 ⟨⟨by omega, by omega⟩, onSome_i ha (ldN_i (tupA l[i]) hh ?_)⟩)
    simp only [allocD]
    refine push_i hv (by omega) fun r' w2 hv2 m2 hf2 => ?_
    refine hX (l.length - (i + 1)) _ _ (by omega) ⟨i + 1, r', hil, rfl, rfl, Mod.fresh hk m2 (fun k ⟨b, hb, hk'⟩ => by rw [hk']; exact hf b hb), ?_, fun b hb => ?_⟩
    · have : cutL [l[i]] v = [l[i]] := by simp only [cutL, List.filter_cons, List.filter_nil]; rw [if_pos (by simp [h1, h2])]
      rw [htk, this]; exact hv2
    · rcases hf2 b hb with e | e
      · exact hf b (e ▸ hb)
      · exact Nat.le_trans hk.size e
  · have hil : i = l.length := by omega
    subst hil
    rw [List.take_length] at hv
    exact onSome_i rfl (h.head_i hk hv hf (h.ok.cut v) fun w2 h2 m2 _ => hQ w2 r h2 m2 hf)

/-- What goes from a number stands together. -/
theorem outL_run {i : Nat} {v : Int} (hs : LSrt l) (low : LowL l v (-1) i) (hmay : ∀ a ∈ l, mayA n a) : ∀ j, i ≤ j → j ≤ l.length → (∀ p x, i ≤ p → p < j → l[p]? = some x → x.f = v) → ((l.drop i).take (j - i) = outL (l.take j) v) := by
  intro j hij hj hall
  have h1 : l.take j = l.take i ++ (l.drop i).take (j - i) := by
    have : j = i + (j - i) := by omega
    conv => lhs; rw [this, List.take_add]
  rw [h1]
  unfold outL
  rw [List.filter_append]
  have e1 : (l.take i).filter (fun x => decide (x.f = v)) = [] := List.filter_eq_nil_iff.2 fun x hx hxv => by
    obtain ⟨p, hp⟩ := List.mem_iff_getElem?.1 hx
    have hlt : p < i := by have := (List.getElem?_eq_some_iff.1 hp).1; simp at this; omega
    rw [List.getElem?_take_of_lt hlt] at hp
    have h2 := low.lo p x hlt hp
    have h3 := (hmay x (List.mem_of_getElem? hp)).2.2.1
    have h4 : x.f = v := by simpa using hxv
    omega
  have e2 : ((l.drop i).take (j - i)).filter (fun x => decide (x.f = v)) = (l.drop i).take (j - i) := List.filter_eq_self.2 fun x hx => by
    obtain ⟨p, hp⟩ := List.mem_iff_getElem?.1 hx
    have hlt : p < j - i := by have := (List.getElem?_eq_some_iff.1 hp).1; simp at this; omega
    rw [List.getElem?_take_of_lt hlt, List.getElem?_drop] at hp
    simpa using hall (i + p) x (by omega) (by omega) hp
  rw [e1, e2, List.nil_append]

end

theorem NewNet_i {n : Int} {s : Sl} {xs : List Arc} {w : World} {Q : Option Addr → World → Prop} (hr : Rd w s 4 eArc xs) (hlen : xs.length < 1099511627776) (hcap : ∀ m i, (putAll m [] (xs.take i)).length < 1099511627776)
    (hbad : ∀ w', Keep w w' → ¬ (0 ≤ n ∧ n ≤ 512 ∧ ∀ a ∈ xs, mayA n.toNat a) → Q none w')
    (hok : ∀ w' g s', 0 ≤ n → n ≤ 512 → (∀ a ∈ xs, mayA n.toNat a) → RNetIs w' g s' n.toNat (putAll n.toNat [] xs) → Keep w w' → (∀ k, rhas g s' k → w.heap.size ≤ k) → Q (some ⟨g, 0, none⟩) w') : F_ref4_NewNet n s w Q := by
  unfold F_ref4_NewNet
  have hl := hr.len
  refine within_i fun r hr0 => cond_i (fun hb => ?_) (fun hb => ?_)
  · exact hbad w (Mod.refl _ _) fun hn => by rw [hr0.2 ⟨hn.1, hn.2.1⟩] at hb; cases hb
  have hn := hr0.1 (by cases r <;> simp at hb ⊢)
  obtain ⟨m, rfl⟩ : ∃ m : Nat, n = (m : Int) := ⟨n.toNat, by omega⟩
  have hm : m ≤ 512 := by omega
  simp only [Int.toNat_natCast] at hbad hok
  simp only [allocD]
  have k1 := Keep.alloc w (.cells #[Value.int .i64 (m : Int), Value.slice none 0 0] 49)
  have o1 : Own (w.alloc (.cells #[Value.int .i64 (m : Int), Value.slice none 0 0] 49)) w.heap.size tRNet [.int .i64 (m : Int), sv ⟨none, 0, 0⟩] := Own.alloc' w _ _
  have h0 : RNetIs (w.alloc (.cells #[Value.int .i64 (m : Int), Value.slice none 0 0] 49)) w.heap.size ⟨none, 0, 0⟩ m [] := ⟨o1, Vec.nil _ _ _ _, (fun a ha => by cases ha), OkL.nil m, hm⟩
  generalize w.alloc (.cells #[Value.int .i64 (m : Int), Value.slice none 0 0] 49) = w1 at *
  refine loop_i (fun c t w2 => ∃ i : Nat, i ≤ xs.length ∧ c = xs.length - i ∧ t = ((i : Int), ()) ∧ Keep w1 w2 ∧ (∀ a ∈ xs.take i, mayA m a)) xs.length
    ⟨0, Nat.zero_le _, rfl, rfl, Mod.refl _ _, by simp⟩ ?_
  rintro c t w2 ⟨i, hi, rfl, rfl, k2, hmay⟩ X hX
  dsimp only
  have h2 := h0.keep k2
  refine cond_d (fun hlt => ?_) (fun hge => ?_)
  · have hi' : i < xs.length := by omega
    obtain ⟨a, ha, hh⟩ := rd_tup (hr.mod (k1.tr k2) eArc_ne (fun _ _ => id)) (List.getElem?_eq_getElem hi')
    refine ⟨⟨by omega, by omega⟩, onSome_i ha (ldN_i (tupA xs[i]) hh ?_)⟩
    refine rmay_i h2.head hm fun w3 r k3 hr3 => cond_i (fun hb => ?_) (fun hb => ?_)
    · exact hbad w3 ((k1.tr k2).tr k3) fun hall => by rw [hr3.2 (hall.2.2 _ (List.getElem_mem hi'))] at hb; cases hb
    · rw [w64 (by omega) (by omega)]
      refine hX (xs.length - (i + 1)) _ _ (by omega) ⟨i + 1, hi', rfl, rfl, k2.tr k3, ?_⟩
      rw [List.take_succ_eq_append_getElem hi']
      intro x hx
      rcases List.mem_append.1 hx with hx | hx
      · exact hmay x hx
      · simp at hx; subst hx; exact hr3.1 (by cases r <;> simp at hb ⊢)
  · have hi' : i = xs.length := by omega
    subst hi'
    rw [List.take_length] at hmay
    refine loop_i (fun c t w5 => ∃ (i : Nat) (s' : Sl), i ≤ xs.length ∧ c = xs.length - i ∧ t = ((i : Int), ()) ∧ RNetIs w5 w.heap.size s' m (putAll m [] (xs.take i)) ∧ Keep w w5 ∧ (∀ k, rhas w.heap.size s' k → w.heap.size ≤ k)) xs.length
      ⟨0, ⟨none, 0, 0⟩, Nat.zero_le _, rfl, rfl, by simpa [putAll] using h2, k1.tr k2, fun k hk => ?_⟩ ?_
    · rcases hk with rfl | ⟨a, ha, _⟩
      · exact Nat.le_refl _
      · cases ha
    rintro c t w5 ⟨i, s', hi, rfl, rfl, h5, k5, hf5⟩ Y hY
    dsimp only
    refine cond_d (fun hlt => ?_) (fun hge => ?_)
    · have hi' : i < xs.length := by omega
      obtain ⟨a, ha, hh⟩ := rd_tup (hr.mod k5 eArc_ne (fun _ _ => id)) (List.getElem?_eq_getElem hi')
      refine ⟨⟨by omega, by omega⟩, onSome_i ha (ldN_i (tupA xs[i]) hh ?_)⟩
      refine rPut_i h5 (hcap m i) fun w6 s6 h6 m6 hf6 => ?_
      rw [w64 (by omega) (by omega)]
      refine hY (xs.length - (i + 1)) _ _ (by omega) ⟨i + 1, s6, hi', rfl, rfl, ?_, Mod.fresh k5 m6 (fun k hk => by rw [hk]; exact Nat.le_refl _), fun k hk => ?_⟩
      · rw [List.take_succ_eq_append_getElem hi', putAll_snoc]; exact h6
      · rcases hk with rfl | ⟨b, hb, rfl⟩
        · exact Nat.le_refl _
        · rcases hf6 b hb with e | e
          · exact hf5 _ (.inr ⟨b, e ▸ hb, rfl⟩)
          · exact Nat.le_trans k5.size e
    · have hi' : i = xs.length := by omega
      subst hi'
      rw [List.take_length] at h5
      exact hok w5 _ s' (by omega) (by omega) hmay h5 k5 hf5
end Go.Proofs.Ytlflndnfgeeieaa
