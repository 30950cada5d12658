/-
  What is put into the document's net.
-/
import Derived.Test.YtadacfoiphklgaaMqRNet
namespace Go.Proofs.Ytadacfoiphklgaa
open Go Go.Den

section
variable {w : World} {g : Nat} {s : Sl} {n : Nat} {l : List Arc}

/-- The head takes another row. -/
theorem RNetIs.head_i {w1 : World} {s' : Sl} {l' : List Arc} (h : RNetIs w g s n l) (k : Keep w w1) (hv : Vec w1 tArc 4 eArc s' l') (hf : ∀ b, s'.b = some b → w.heap.size ≤ b.block) (hok : OkL n l') {K : World → Prop}
    (hK : ∀ w2, RNetIs w2 g s' n l' → Mod (fun k => k = g) w w2 → Mod (fun k => k = g) w1 w2 → K w2) : storeD Try.prog tsArc ((⟨g, 0, none⟩ : Addr).add 1) (sv s') w1 K := by
  have hh := h.head.mod k id
  have hlt := h.head.lt
  rw [addr_lit]
  refine storeD1_i hh size_sArc (by simp) rfl rfl fun w2 h2 m2 _ => hK w2 ⟨h2, hv.mod m2 (fun a ha e => ?_), fun a ha e => ?_, hok, h.sz⟩ (k.wk.tr m2) m2
  · have := hf a ha; omega
  · have := hf a ha; omega

theorem tail_i {wX : World} {s7 : Sl} {ga i : Nat} {a : Arc} {Q : Bool → World → Prop} (h : RNetIs w g s n l) (kX : Keep w wX) (v7 : Vec wX tArc 4 eArc s7 (l.take i)) (f7 : ∀ b, s7.b = some b → w.heap.size ≤ b.block) (oa : Own wX ga 42 (eArc a))
    (hl : l.length < 1099511627776) (low : LowL l a.f a.t i) (hn : ∀ x ∈ l, ¬ (x.f = a.f ∧ x.t = a.t)) (hm : mayA n a)
    (hQ : ∀ w' s', RNetIs w' g s' n (insL l a) → Mod (fun k => k = g) w w' → (∀ b, s'.b = some b → w.heap.size ≤ b.block) → Q true w') :
    appendD Try.prog tsArc tsArc s7 (.slice (some ⟨ga, 0, none⟩) 1 1) wX fun s8 w11 => w11.cell? ((⟨g, 0, none⟩ : Addr).add 1) = some (sv s) ∧
      appendD Try.prog tsArc tsArc s8 (.slice (sliceAddr s.b s.c i 4) (s.l - i) (s.c - i)) w11 fun s9 w12 => onSome (some (⟨g, 0, none⟩ : Addr)) fun a13 => storeD Try.prog tsArc (a13.add 1) (.slice s9.b s9.l s9.c) w12 fun w13 => Q true w13 := by
  have hle := low.le
  have hsl := h.vec.len
  have hsc := h.vec.cap
  have rv : Rd wX ⟨some ⟨ga, 0, none⟩, 1, 1⟩ 4 eArc [a] := (Vec.mk rfl (Nat.le_refl _) (by simp [maxLen]) (.inr ⟨ga, [], rfl, by simpa using oa, rfl⟩) : Vec wX tArc 4 eArc ⟨some ⟨ga, 0, none⟩, 1, 1⟩ [a]).rd lenA
  refine append_i elem_sArc lenA oneA v7 rv (by simp; omega) (by simp; omega) fun s8 w11 v8 m8 h8 _ => ?_
  have k11 : Keep w w11 := Mod.fresh kX m8 fun k ⟨b, hb, hk⟩ => by rw [hk]; exact f7 b hb
  have f8 : ∀ b, s8.b = some b → w.heap.size ≤ b.block := fun b hb => by
    rcases h8 with e | ⟨b', e, hlt⟩
    · exact f7 b (e ▸ hb)
    · rw [e] at hb; cases hb; have := kX.size; omega
  have h11 := h.keep k11
  refine ⟨h11.c1, ?_⟩
  have hpart : Rd w11 ⟨sliceAddr s.b s.c i 4, s.l - i, s.c - i⟩ 4 eArc (l.drop i) := by
    have := (h11.vec.rd lenA).part (i := i) (j := s.l) (c := s.c) (by omega) (by omega) (by omega) (by omega)
    rwa [List.take_of_length_le (by simp; omega)] at this
  refine append_i elem_sArc lenA oneA v8 hpart (by simp; omega) (by simp; omega) fun s9 w12 v9 m9 h9 _ => ?_
  have k12 : Keep w w12 := Mod.fresh k11 m9 fun k ⟨b, hb, hk⟩ => by rw [hk]; exact f8 b hb
  have f9 : ∀ b, s9.b = some b → w.heap.size ≤ b.block := fun b hb => by
    rcases h9 with e | ⟨b', e, hlt⟩
    · exact f8 b (e ▸ hb)
    · rw [e] at hb; cases hb; have := k11.size; omega
  refine onSome_i rfl ?_
  rw [low.ins_new hn] at v9
  exact h.head_i k12 v9 f9 (h.ok.ins hm) fun w2 h2 m2 _ => hQ w2 s9 h2 m2 f9

/-- The first of the three. -/
theorem first_i {wE : World} {ge i : Nat} {K : Sl → World → Prop} (h : RNetIs w g s n l) (kE : Keep w wE) (oe : Own wE ge 42 []) (he : w.heap.size ≤ ge) (hl : l.length < 1099511627776) (hi : i ≤ l.length)
    (hK : ∀ s7 w9, Vec w9 tArc 4 eArc s7 (l.take i) → Keep wE w9 ∨ True → Mod (fun k => k = ge) wE w9 → (∀ b, s7.b = some b → b.block = ge ∨ wE.heap.size ≤ b.block) → K s7 w9) :
    appendD Try.prog tsArc tsArc ⟨some ⟨ge, 0, none⟩, 0, 0⟩ (.slice (sliceAddr s.b s.c 0 4) (i - 0) (s.c - 0)) wE K := by
  have hsl := h.vec.len
  have hsc := h.vec.cap
  have v0 : Vec wE tArc 4 eArc ⟨some ⟨ge, 0, none⟩, 0, 0⟩ [] := ⟨rfl, Nat.le_refl _, Nat.zero_le _, .inr ⟨ge, [], rfl, by simpa using oe, rfl⟩⟩
  have hpart : Rd wE ⟨sliceAddr s.b s.c 0 4, i - 0, s.c - 0⟩ 4 eArc (l.take i) := by
    have := ((h.keep kE).vec.rd lenA).part (i := 0) (j := i) (c := s.c) (by omega) (by omega) (by omega) (by omega)
    simpa using this
  refine append_i elem_sArc lenA oneA v0 hpart (by simp; omega) (by simp; omega) fun s7 w9 v7 m7 h7 _ => ?_
  refine hK s7 w9 (by simpa using v7) (.inr trivial) (m7.mono fun k _ ⟨b, hb, hk⟩ => by cases hb; exact hk) fun b hb => ?_
  rcases h7 with e | ⟨b', e, hlt⟩
  · rw [hb] at e; cases e; exact .inl rfl
  · rw [e] at hb; cases hb; exact .inr hlt

theorem rPut_i {a : Arc} {Q : Bool → World → Prop} (h : RNetIs w g s n l) (hl : l.length < 1099511627776)
    (hQ : ∀ w' s', RNetIs w' g s' n (putL n l a).1 → Mod (fun k => k = g) w w' → (∀ b, s'.b = some b → s'.b = s.b ∨ w.heap.size ≤ b.block) → Q (putL n l a).2 w') : F_ref4_Net_Put (some ⟨g, 0, none⟩) (tupA a) w Q := by
  unfold F_ref4_Net_Put
  simp only [allocD]
  have hgl := h.head.lt
  have k1 := Keep.alloc w (.cells #[Value.int .i64 a.f, Value.int .i64 a.t, Value.int .i64 a.w, Value.int .i64 a.m] 42)
  have oa1 : Own (w.alloc (.cells #[Value.int .i64 a.f, Value.int .i64 a.t, Value.int .i64 a.w, Value.int .i64 a.m] 42)) w.heap.size 42 (eArc a) := Own.alloc' w _ 42
  generalize hw1 : w.alloc (.cells #[Value.int .i64 a.f, Value.int .i64 a.t, Value.int .i64 a.w, Value.int .i64 a.m] 42) = w1 at *
  generalize hb1 : w.heap.size = b1 at *
  refine ldN_i (tupA a) (own_all oa1) ?_
  refine rmay_i (h.keep k1).head h.sz fun w2 r k2 hr => ?_
  have k12 := k1.tr k2
  have h2 := h.keep k12
  have oa2 := oa1.mod k2 id
  refine cond_i (fun hr0 => ?_) (fun hr0 => ?_)
  · have hno : ¬ mayA n a := fun hm => by rw [hr.2 hm] at hr0; cases hr0
    have e : putL n l a = (l, false) := by unfold putL; rw [if_neg hno]
    rw [e] at hQ
    exact hQ w2 s h2 k12.wk fun b hb => .inl rfl
  have hm : mayA n a := hr.1 (by cases r <;> simp at hr0 ⊢)
  have la : ∀ {w' : World}, Own w' b1 42 (eArc a) → w'.cell? ((⟨b1, 0, none⟩ : Addr).add 0) = some (.int .i64 a.f) ∧ w'.cell? ((⟨b1, 0, none⟩ : Addr).add 1) = some (.int .i64 a.t) ∧ w'.cell? ((⟨b1, 0, none⟩ : Addr).add 2) = some (.int .i64 a.w) := fun ho => by
    refine ⟨?_, ?_, ?_⟩ <;> rw [addr_lit, ho.cell] <;> rfl
  refine ld1_i (k := .int .i64) a.f (la oa2).1 (ld1_i (k := .int .i64) a.t (la oa2).2.1 ?_)
  refine rFind_i h2 hl fun i found w3 k3 low hf => ?_
  have d3 : Keep w3 w3.drew := Mod.drew (Mod.refl _ w3)
  have k13 := (k12.tr k3).tr d3
  have h3 := h.keep k13
  have oa3 := (oa2.mod k3 id).mod d3 id
  have hsl := h.vec.len
  have hsc := h.vec.cap
  have hle := low.le
  generalize w3.drew = w4 at *
  have sz4 : b1 < w4.heap.size := oa3.lt
  refine cond_i (fun hfd => ?_) (fun hfd => ?_)
  · obtain ⟨x, hx, hxf, hxt⟩ := hf.1 hfd
    have hxi := low.found h.ok.srt hx hxf hxt
    have hi : i < l.length := (List.getElem?_eq_some_iff.1 hxi).1
    have efind : findL l a.f a.t = some x := by rw [← hxf, ← hxt]; exact findL_eq h.ok.srt hx
    obtain ⟨b, hb, hh⟩ := (h3.vec.rd lenA).get i x hxi
    refine onSome_i rfl (ld1_i (k := .slice) s h3.c1 ⟨⟨by omega, by omega⟩, onSome_i hb (ld1_i (k := .int .i64) x.w ((holds_iff.1 hh) 2 _ rfl) (ld1_i (k := .int .i64) a.w (la oa3).2.2 ?_))⟩)
    refine cond_d (fun hle => ?_) (fun hle => ?_)
    · have e : putL n l a = (l, false) := by unfold putL; rw [if_pos hm, efind]; simp only [hle, if_true]
      rw [e] at hQ
      exact hQ w4 s h3 k13.wk fun b hb => .inl rfl
    · have e : putL n l a = (insL l a, true) := by unfold putL; rw [if_pos hm, efind]; simp only [hle, if_false]
      rw [e] at hQ
      have ke := Keep.alloc w4 (.cells #[] 42)
      have v0 : Vec (w4.alloc (.cells #[] 42)) tArc 4 eArc ⟨some ⟨w4.heap.size, 0, none⟩, 0, 0⟩ [] := Vec.lit w4 tArc eArc lenA [] #[] rfl (by simp)
      have h4 := h3.keep ke
      refine onSome_i rfl (ld1_i (k := .slice) s h4.c1 ?_)
      refine append_i elem_sArc lenA oneA v0 (h4.vec.rd lenA) (by simp; omega) (by simp; omega) fun s3 w5 v3 m3 h3b hn3 => ?_
      simp only [List.nil_append] at v3
      have k5 : Keep w w5 := Mod.fresh (k13.tr ke) m3 fun k ⟨c, hc, hk⟩ => by cases hc; rw [hk]; show w.heap.size ≤ w4.heap.size; exact k13.size
      have f3 : ∀ c, s3.b = some c → w.heap.size ≤ c.block := fun c hc => by
        rcases h3b with e | ⟨c', e, hlt⟩
        · rw [hc] at e; cases e; exact k13.size
        · rw [e] at hc; cases hc; have := ke.size; have := k13.size; omega
      have oa5 : Own w5 b1 42 (eArc a) := (oa3.mod ke id).mod m3 fun ⟨c, hc, hk⟩ => by cases hc; have hk' : b1 = w4.heap.size := hk; omega
      refine onSome_i rfl (h.head_i k5 v3 f3 h.ok fun w6 h6 m6 m56 => ?_)
      have d6 : Keep w6 w6.drew := Mod.drew (Mod.refl _ w6)
      have h6' := h6.keep d6
      have oa6 : Own w6.drew b1 42 (eArc a) := (oa5.mod m56 (by omega)).mod d6 id
      refine onSome_i rfl (ld1_i (k := .slice) s3 h6'.c1 (ldN_i (tupA a) (own_all oa6) ?_))
      have hs3 := h6'.vec.len
      obtain ⟨c, hc, _⟩ := (h6'.vec.rd lenA).get i x hxi
      refine ⟨⟨by omega, by omega⟩, onSome_i hc ?_⟩
      refine h6'.vec.store lenA hc hi a rfl size_Arc (oneA a) fun w7 v7 m7 _ => ?_
      rw [low.ins_at h.ok.srt hx hxf hxt] at v7
      have hcg : c.block ≠ g := h6'.sep c hc
      refine hQ w7 s3 ⟨h6'.head.mod m7 (fun e => hcg e.symm), v7, h6'.sep, h.ok.ins hm, h.sz⟩ ((m6.tr d6.wk).trans m7 fun k hk e => ?_) fun b hb => .inr (by rw [← hb1]; exact f3 b hb)
      have := f3 c hc; omega
  · have hn : ∀ x ∈ l, ¬ (x.f = a.f ∧ x.t = a.t) := fun x hx he => by rw [hf.2 ⟨x, hx, he.1, he.2⟩] at hfd; cases hfd
    have efind : findL l a.f a.t = none := by
      cases hfl : findL l a.f a.t with
      | none => rfl
      | some x => obtain ⟨h1, h2, h3⟩ := findL_some hfl; exact absurd ⟨h2, h3⟩ (hn x h1)
    have e : putL n l a = (insL l a, true) := by unfold putL; rw [if_pos hm, efind]
    rw [e] at hQ
    have hQ' : ∀ w' s', RNetIs w' g s' n (insL l a) → Mod (fun k => k = g) w w' → (∀ b, s'.b = some b → w.heap.size ≤ b.block) → Q true w' := fun w' s' h1 h2 h3 => hQ w' s' h1 h2 fun b hb => .inr (by rw [← hb1]; exact h3 b hb)
    have ht : Int.toNat (i : Int) = i := rfl
    refine onSome_i rfl (ld1_i (k := .slice) s h3.c1 ⟨⟨by omega, by omega⟩, ldN_i (tupA a) (own_all oa3) (onSome_i rfl (ld1_i (k := .slice) s h3.c1 ⟨⟨by omega, by omega⟩, ?_⟩))⟩)
    rw [ht]
    have kA := Keep.alloc w4 (.cells #[] 42)
    have oE : Own (w4.alloc (.cells #[] 42)) w4.heap.size 42 [] := Own.alloc' w4 #[] 42
    have hA := h3.keep kA
    have wle : w.heap.size ≤ w4.heap.size := k13.size
    refine ⟨⟨hA.c1, own_all (oa3.mod kA id), hA.c1, ?_, ?_⟩, ?_⟩
    · refine first_i h (k13.tr kA) oE wle hl hle fun s7 w9 v7 _ m7 f7 => ?_
      have k9 : Keep w w9 := Mod.fresh (k13.tr kA) m7 fun k hk => by rw [hk]; exact wle
      have h9 := h.keep k9
      refine ⟨h9.c1, own_all ((oa3.mod kA id).mod m7 (by omega)), ?_⟩
      have kB := Keep.alloc w9 (.cells #[Value.int .i64 a.f, Value.int .i64 a.t, Value.int .i64 a.w, Value.int .i64 a.m] 42)
      refine ⟨(h9.keep kB).c1, ?_⟩
      exact tail_i h (k9.tr kB) (v7.mod kB (fun _ _ => id)) (fun b hb => by rcases f7 b hb with e | e
                                                                            · omega
                                                                            · have := kA.size; omega) (Own.alloc' w9 _ 42) hl low hn hm hQ'
    · have kB := Keep.alloc (w4.alloc (.cells #[] 42)) (.cells #[Value.int .i64 a.f, Value.int .i64 a.t, Value.int .i64 a.w, Value.int .i64 a.m] 42)
      have oB : Own ((w4.alloc (.cells #[] 42)).alloc (.cells #[Value.int .i64 a.f, Value.int .i64 a.t, Value.int .i64 a.w, Value.int .i64 a.m] 42)) (w4.alloc (.cells #[] 42)).heap.size 42 (eArc a) := Own.alloc' _ _ 42
      have hB := hA.keep kB
      have hlt := oE.lt
      refine ⟨hB.c1, hB.c1, ?_⟩
      refine first_i h ((k13.tr kA).tr kB) (oE.mod kB id) wle hl hle fun s7 w9 v7 _ m7 f7 => ?_
      have k9 : Keep w w9 := Mod.fresh ((k13.tr kA).tr kB) m7 fun k hk => by rw [hk]; exact wle
      refine ⟨(h.keep k9).c1, ?_⟩
      exact tail_i h k9 v7 (fun b hb => by rcases f7 b hb with e | e
                                           · omega
                                           · exact Nat.le_trans (Nat.le_trans (Nat.le_trans wle kA.size) kB.size) e) (oB.mod m7 fun e => by omega) hl low hn hm hQ'
    · have kB := Keep.alloc w4 (.cells #[Value.int .i64 a.f, Value.int .i64 a.t, Value.int .i64 a.w, Value.int .i64 a.m] 42)
      have oB : Own (w4.alloc (.cells #[Value.int .i64 a.f, Value.int .i64 a.t, Value.int .i64 a.w, Value.int .i64 a.m] 42)) w4.heap.size 42 (eArc a) := Own.alloc' w4 _ 42
      have hB := h3.keep kB
      refine ⟨hB.c1, hB.c1, ?_⟩
      have kC := Keep.alloc (w4.alloc (.cells #[Value.int .i64 a.f, Value.int .i64 a.t, Value.int .i64 a.w, Value.int .i64 a.m] 42)) (.cells #[] 42)
      have oC : Own ((w4.alloc (.cells #[Value.int .i64 a.f, Value.int .i64 a.t, Value.int .i64 a.w, Value.int .i64 a.m] 42)).alloc (.cells #[] 42)) (w4.alloc (.cells #[Value.int .i64 a.f, Value.int .i64 a.t, Value.int .i64 a.w, Value.int .i64 a.m] 42)).heap.size 42 [] := Own.alloc' _ #[] 42
      have hC := hB.keep kC
      have hlt := oB.lt
      refine ⟨hC.c1, hC.c1, ?_⟩
      have wle2 := Nat.le_trans wle kB.size
      refine first_i h ((k13.tr kB).tr kC) oC wle2 hl hle fun s7 w9 v7 _ m7 f7 => ?_
      have k9 : Keep w w9 := Mod.fresh ((k13.tr kB).tr kC) m7 fun k hk => by rw [hk]; exact wle2
      refine ⟨(h.keep k9).c1, ?_⟩
      exact tail_i h k9 v7 (fun b hb => by rcases f7 b hb with e | e
                                           · rw [e]; exact wle2
                                           · exact Nat.le_trans (Nat.le_trans wle2 kC.size) e) ((oB.mod kC id).mod m7 fun e => Nat.ne_of_lt hlt e) hl low hn hm hQ'
end
end Go.Proofs.Ytadacfoiphklgaa
