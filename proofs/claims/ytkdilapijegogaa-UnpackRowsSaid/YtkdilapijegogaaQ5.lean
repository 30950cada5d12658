/-
  The program's unpack: Arc, and Row.
-/
import Derived.Test.YtkdilapijegogaaFUnp
import Derived.Test.YtkdilapijegogaaA3
import Derived.Test.YtkdilapijegogaaQ3
import Derived.Test.YtkdilapijegogaaQ4
import Derived.Test.YtkdilapijegogaaFL17
import Derived.Test.YtkdilapijegogaaQ1
namespace Go.Proofs.Ytkdilapijegogaa
open Go Go.Den

abbrev eP (p : Int × Int) : List Value := [.int .i64 p.1, .int .i64 p.2]
theorem lenP : ∀ p : Int × Int, (eP p).length = 2 := fun _ => rfl
theorem oneP : ∀ p : Int × Int, ∀ u ∈ eP p, u.oneCell' = true := by intro p u hu; simp at hu; rcases hu with rfl | rfl <;> rfl
theorem pair_store {w : World} {g : Nat} {cs : List Value} {p : Int × Int} {K : World → Prop} (h : Own w g tArr2 cs) (hl : cs.length = 2) (hK : ∀ w', Own w' g tArr2 (eP p) → Mod (fun k => k = g) w w' → K w') :
    storeD Try.prog tArr2 ⟨g, 0, none⟩ (Value.agg #[Value.int .i64 p.1, Value.int .i64 p.2]) w K := by
  refine storeD_i h size_Arr2 (by simp [Value.cells, hl]) (by simp [Value.cells, Value.oneCell']) fun w' ho hm _ => hK w' ?_ hm
  have : cs.take 0 ++ (Value.agg #[Value.int .i64 p.1, Value.int .i64 p.2]).cells.toList ++ cs.drop (0 + (Value.agg #[Value.int .i64 p.1, Value.int .i64 p.2]).cells.size) = eP p := by
    simp [Value.cells, List.drop_of_length_le (show cs.length ≤ 2 by omega)]
  rwa [this] at ho
/-- A slice over a new block. -/
theorem Vec.new {α : Type} {w : World} {e : TypeId} {n : Nat} {enc : α → List Value} {g : Nat} (henc : ∀ x, (enc x).length = n) (xs : List α) (h : Own w g e (xs.flatMap enc)) (hm : xs.length ≤ maxLen) : Vec w e n enc ⟨some ⟨g, 0, none⟩, xs.length, xs.length⟩ xs :=
  ⟨rfl, Nat.le_refl _, hm, .inr ⟨g, [], rfl, by rw [List.append_nil]; exact h, by rw [List.append_nil]; exact length_flatMap_enc henc xs⟩⟩

theorem CloneI_i {s : Sl} {xs : List Int} {w : World} {Q : Sl → World → Prop} (hs : Rd w s 1 eI xs) (hb : xs.length < 1099511627776)
    (hQ : ∀ s' w', Vec w' tInt 1 eI s' xs → Keep w w' → (∀ b, s'.b = some b → w.heap.size ≤ b.block) → Q s' w') : F_slices_Clone_sint_int s w Q := by
  unfold F_slices_Clone_sint_int
  refine cond_i (fun h => ?_) (fun h => ?_)
  · have hn : xs = [] := by
      cases xs with
      | nil => rfl
      | cons x r => obtain ⟨a, ha, _⟩ := hs.get 0 x rfl; rw [ha] at h; cases h
    subst hn
    exact hQ _ w (Vec.nil _ _ _ _) (Mod.refl _ _) (fun b hb => by cases hb)
  · refine alloc_i fun w1 o1 k1 z1 => ?_
    have v0 : Vec w1 tInt 1 eI ⟨some ⟨w.heap.size, 0, none⟩, 0, 0⟩ [] := Vec.new lenI [] o1 (by simp)
    refine append_i elem_sInt lenI oneI v0 (hs.mod k1 eI_ne (fun _ _ => id)) (by simp; omega) (by simp; omega) fun r w' hr hm hrb _ => ?_
    refine hQ r w' (by simpa using hr) (Mod.fresh k1 hm fun k ⟨a, ha, hk⟩ => by cases ha; rw [hk]; exact Nat.le_refl _) fun b hb => ?_
    rcases hrb with h1 | ⟨b', hb', hlt⟩
    · rw [hb] at h1; cases h1; exact Nat.le_refl _
    · rw [hb] at hb'; cases hb'; have := k1.size; omega

theorem Unp_none {f t : Int} {w : World} {Q : Sl → Int → World → Prop} (hQ : Q ⟨none, 0, 0⟩ 4 w) : F_unpack_Arc none f t w Q := by
  unfold F_unpack_Arc
  exact cond_i (fun _ => hQ) (fun h => by simp at h)

theorem pend_len {A : List Arc} {r : List (Int × Int)} {l : List Int} {k : Nat} (h : PendW A r l k) : r.length ≤ k := by
  induction h with
  | nil => exact Nat.le_refl _
  | cons hx _ ih => have := way_len hx; simp only [List.length_cons]; omega
theorem way_tail {A : List Arc} {f t : Int} {x : List Int} (h : WayIs A f t x) : f :: x.tail = x := by
  obtain ⟨m, rfl⟩ := way_shape h; rfl

section
variable {w : World} {H : LevS} {n : Nat} {A L : List Arc} {R : List Int}
theorem Unp_i {f t : Int} {Q : Sl → Int → World → Prop} (h : LevIs w H n A R) (U : UnpOk n L A R) (hn : n ≤ 30)
    (hyes : ∀ l s w', WayIs A f t l → Vec w' tInt 1 eI s l → Keep w w' → (∀ b, s.b = some b → w.heap.size ≤ b.block) → Q s 0 w') (hno : wayO A f t = none → ∀ w', Keep w w' → Q ⟨none, 0, 0⟩ 4 w') : F_unpack_Arc (some ⟨H.gl, 0, none⟩) f t w Q := by
  unfold F_unpack_Arc
  refine cond_i (fun h => by simp at h) (fun _ => ?_)
  refine alloc_i fun w1 o1 k1 z1 => alloc_i fun w2 o2 k2 z2 => ?_
  have K2 := k1.tr k2
  have v1 : Vec w2 tInt 1 eI ⟨some ⟨w.heap.size, 0, none⟩, 1, 1⟩ [f] := (Vec.new lenI [f] o1 (by simp [maxLen])).mod k2 fun _ _ => id
  have v2 : Vec w2 tArr2 2 eP ⟨some ⟨w1.heap.size, 0, none⟩, 1, 1⟩ [(f, t)] := Vec.new lenP [(f, t)] o2 (by simp [maxLen])
  refine onSome_i rfl (ld1_i (k := .ptr) (some ⟨H.N.g, 0, none⟩) (h.keep K2).c0 ?_)
  refine Len_i (h.keep K2).net ?_
  rw [w64 (n := (2 : Int) * (n : Int)) (by omega) (by omega)]
  refine loop_i (fun c s4 w4 => ∃ (so sr : Sl) (out : List Int) (stk : List (Int × Int)) (left : Int), s4 = (so, sr, left, ()) ∧ Vec w4 tInt 1 eI so out ∧ Vec w4 tArr2 2 eP sr stk ∧ Keep w w4 ∧ (∀ b, so.b = some b → w.heap.size ≤ b.block) ∧ (∀ b, sr.b = some b → w.heap.size ≤ b.block) ∧
      (∀ a b, so.b = some a → sr.b = some b → a.block ≠ b.block) ∧ left ≤ 1000 ∧ -1000 + c ≤ left ∧ out.length ≤ 1000 ∧
      ((wayO A f t = none ∧ stk = [(f, t)]) ∨ ∃ l k tot, WayIs A f t tot ∧ PendW A stk.reverse l k ∧ c = k ∧ (k : Int) ≤ left + 1 ∧ out ++ l = tot ∧ stk.length ≤ k)) (match wayO A f t with | none => 1 | some l => 2 * l.length - 3)
    ⟨_, _, [f], [(f, t)], 2 * (n : Int), rfl, v1, v2, K2, fun b hb => by cases hb; exact Nat.le_refl _, fun b hb => by cases hb; exact k1.size, fun a b ha hb => by cases ha; cases hb; show w.heap.size ≠ w1.heap.size; omega, by omega, ?_, by simp, ?_⟩ ?_
  · cases hw : wayO A f t with
    | none => simp only; omega
    | some l => have := way_short U ((wayO_some U).1 hw); simp only; omega
  · cases hw : wayO A f t with
    | none => exact .inl ⟨rfl, rfl⟩
    | some l =>
      have hW := (wayO_some U).1 hw
      have h1 := way_short U hW
      have h2 := way_len hW
      have hp := PendW.cons hW (.nil (A := A))
      rw [List.append_nil, Nat.add_zero] at hp
      exact .inr ⟨_, _, l, hW, hp, rfl, by omega, way_tail hW, by show 1 ≤ _; omega⟩
  rintro c s4 w4 ⟨so, sr, out, stk, left, rfl, vo, vr, K4, fo, fr, sep, left1, left2, outl, hst⟩ X hX
  dsimp only
  have lr := vr.len
  refine cond_d (fun hpos => ?_) (fun hzero => ?_)
  · rcases List.eq_nil_or_concat stk with rfl | ⟨ys, pq, hcat⟩
    · simp at lr; omega
    rw [List.concat_eq_append] at hcat
    subst hcat
    obtain ⟨p, q⟩ := pq
    have lr' : sr.l = ys.length + 1 := by simpa using lr
    have small : ys.length ≤ 2000 := by
      rcases hst with ⟨_, h2⟩ | ⟨l, k, tot, _, _, _, _, _, h6⟩
      · have := congrArg List.length h2
        rw [List.length_append] at this
        simp only [List.length_cons, List.length_nil] at this
        omega
      · simp at h6; omega
    have wl : IntKind.wrap .i64 (((sr.l : Nat) : Int) - (1 : Int)) = ((ys.length : Nat) : Int) := by rw [lr', w64 (by omega) (by omega)]; omega
    rw [wl, Int.toNat_natCast]
    have hget : (ys ++ [(p, q)])[ys.length]? = some (p, q) := by simp
    obtain ⟨pa, hpa, hh⟩ := (vr.rd lenP).get ys.length (p, q) hget
    have hcap := vr.cap
    refine ⟨⟨by omega, by omega⟩, onSome_i hpa (ldN_i (l := [.int .i64, .int .i64]) (p, q, ()) hh ?_)⟩
    refine alloc_i fun w5 o5 k5 z5 => ?_
    refine pair_store (p := (p, q)) o5 rfl fun w6 o6 m6 => ⟨⟨by omega, by omega⟩, ?_⟩
    have k6 : Keep w4 w6 := k5.fresh m6 fun k e => by rw [show k = w4.heap.size from e]; exact Nat.le_refl _
    have d6 : Keep w6 w6.drew := Mod.drew (Mod.refl _ w6)
    have k6' := k6.tr d6
    have c8 : ∀ {wx : World}, Keep w6 wx → wx.cell? ((⟨w4.heap.size, 0, none⟩ : Addr).add 0) = some (.int .i64 p) ∧ wx.cell? ((⟨w4.heap.size, 0, none⟩ : Addr).add 1) = some (.int .i64 q) := fun {wx} kx => by
      have ox := o6.mod kx id
      refine ⟨?_, ?_⟩ <;> rw [addr_lit, ox.cell] <;> rfl
    intro J hJ
    have nof : ∀ w7 o, findL A p q = none → Keep w4 w7 → J (o, false, ()) w7 := fun w7 o hnone k7 => by
      apply hJ
      dsimp only
      refine cond_i (fun _ => ?_) (fun h => by simp at h)
      rcases hst with ⟨h1, _⟩ | ⟨l, k, tot, _, hp, _⟩
      · exact hno h1 w7 (K4.tr k7)
      · rw [List.reverse_append] at hp
        cases hp with
        | cons hx _ =>
          obtain ⟨e, he, e1, e2⟩ := way_find hx
          exact absurd ⟨e1, e2⟩ (findL_none hnone e he)
    have found : ∀ e w7 ba, findL A p q = some e → Own w7 ba tArc (eArc e) → Keep w4 w7 → J (some ⟨ba, 0, none⟩, true, ()) w7 := fun e w7 ba hf oa k7 => by
      obtain ⟨heA, hef, het⟩ := findL_some hf
      apply hJ
      dsimp only
      refine cond_i (fun h => by simp at h) (fun _ => ?_)
      rcases hst with ⟨h1, h2⟩ | ⟨l, k, tot, hW, hp, rfl, hk, hout, hkl⟩
      · have h3 : ys = [] ∧ p = f ∧ q = t := by
          cases ys with
          | nil => simpa using h2
          | cons y r => have := congrArg List.length h2; simp at this
        obtain ⟨lw, hlw⟩ := way_of U heA
        rw [hef, het, h3.2.1, h3.2.2] at hlw
        rw [(wayO_some U).2 hlw] at h1; cases h1
      rw [List.reverse_append] at hp
      simp only [List.reverse_cons, List.reverse_nil, List.nil_append, List.singleton_append] at hp
      cases hp with
      | @cons _ _ x l' k' _ hx hr =>
      have hxl := way_len hx
      have htl := way_short U hW
      refine cond_d (fun hneg => by omega) (fun _ => ?_)
      obtain ⟨ca0, ca1, _, ca3⟩ := own_arc oa
      have K7 := K4.tr k7
      have vo7 := vo.mod k7 fun _ _ => id
      have vr7 := vr.mod k7 fun _ _ => id
      have vt7 : Vec w7 tArr2 2 eP ⟨sr.b, ys.length, sr.c⟩ ys := by
        have := vr7.take (i := ys.length) (by omega)
        rwa [List.take_left] at this
      rw [sliceAddr_zero, Nat.sub_zero, Nat.sub_zero]
      have wl1 : IntKind.wrap .i64 (left - (1 : Int)) = left - 1 := w64 (by omega) (by omega)
      rw [wl1]
      refine onSome_i rfl (ld1_i (k := .int .i64) e.m ca3 ?_)
      have ltr : ∀ b, sr.b = some b → b.block < w7.heap.size := fun b hb => vr7.lt hb
      have lto : ∀ b, so.b = some b → b.block < w7.heap.size := fun b hb => vo7.lt hb
      have z7 : w.heap.size ≤ w7.heap.size := K7.size
      refine cond_d (fun hm => ?_) (fun hm => ?_)
      · -- one of the net's own
        have hox : x = [p, q] := by
          have := WayIs.own heA hm
          rw [hef, het] at this
          exact way_uniq U hx this
        refine onSome_i rfl (ld1_i (k := .int .i64) e.t ca1 ?_)
        refine alloc_i fun w8 o8 k8 z8 => ?_
        have v8 : Vec w8 tInt 1 eI ⟨some ⟨w7.heap.size, 0, none⟩, 1, 1⟩ [e.t] := Vec.new lenI [e.t] o8 (by simp [maxLen])
        refine append_i elem_sInt lenI oneI (vo7.mod k8 fun _ _ => id) (v8.rd lenI) (by simp; omega) (by simp; omega) fun r w9 vr9 m9 fr9 _ => ?_
        have m9' : Mod (fun k => ∃ a, so.b = some a ∧ k = a.block) w7 w9 := k8.wk.tr (m9.mono fun k _ hk => hk)
        have hle : out.length + 1 ≤ 1000 := by
          have := congrArg List.length hout
          simp at this
          subst hox
          simp at this
          omega
        refine hX (k' + (2 * x.length - 3) - 1) _ _ (by omega) ⟨r, ⟨sr.b, ys.length, sr.c⟩, out ++ [e.t], ys, left - 1, rfl, vr9, vt7.mod m9' (fun a ha ⟨b, hb, e9⟩ => sep b a hb ha e9.symm), K7.fresh m9' (fun k ⟨a, ha, e9⟩ => by rw [e9]; exact fo a ha), fun b hb => ?_, fr, fun a b ha hb => ?_, by omega, by omega, by simpa using hle, .inr ⟨l', k', tot, hW, hr, by subst hox; simp, by omega, ?_, by have := pend_len hr; rwa [List.length_reverse] at this⟩⟩
        · rcases fr9 with h9 | ⟨a, ha, hlt⟩
          · exact fo b (by rw [← h9]; exact hb)
          · rw [ha] at hb; cases hb; omega
        · rcases fr9 with h9 | ⟨a', ha', hlt⟩
          · exact sep a b (by rw [← h9]; exact ha) hb
          · rw [ha'] at ha; cases ha
            have := ltr b hb; omega
        · rw [← hout, hox, het]; simp
      · -- a shortcut
        obtain ⟨x1, hx1⟩ : ∃ x1, WayIs A e.f e.m x1 := by
          obtain ⟨_, ⟨a, ha, _, _, a1, a2, _⟩, _⟩ := U.half e heA (by omega)
          obtain ⟨x1, h1⟩ := way_of U ha
          rw [a1, a2] at h1; exact ⟨x1, h1⟩
        obtain ⟨x2, hx2⟩ : ∃ x2, WayIs A e.m e.t x2 := by
          obtain ⟨_, ⟨_, _, b, hb, _, _, b1, b2, _⟩, _⟩ := U.half e heA (by omega)
          obtain ⟨x2, h2⟩ := way_of U hb
          rw [b1, b2] at h2; exact ⟨x2, h2⟩
        have hxe : x = x1 ++ x2.tail := by
          have := WayIs.cut heA (by omega) hx1 hx2
          rw [hef, het] at this
          exact way_uniq U hx this
        have l1 := way_len hx1
        have l2 := way_len hx2
        have hlx : x.length = x1.length + x2.length - 1 := by rw [hxe]; simp; omega
        refine onSome_i rfl (ld1_i (k := .int .i64) e.m ca3 (onSome_i rfl (ld1_i (k := .int .i64) e.t ca1 (onSome_i rfl (ld1_i (k := .int .i64) e.f ca0 (onSome_i rfl (ld1_i (k := .int .i64) e.m ca3 ?_)))))))
        refine alloc_i fun w8 o8 k8 z8 => ?_
        have v8 : Vec w8 tArr2 2 eP ⟨some ⟨w7.heap.size, 0, none⟩, 2, 2⟩ [(e.m, e.t), (e.f, e.m)] := Vec.new lenP [(e.m, e.t), (e.f, e.m)] o8 (by simp [maxLen])
        refine append_i elem_sArr2 lenP oneP (vt7.mod k8 fun _ _ => id) (v8.rd lenP) (by simp; omega) (by simp; omega) fun r w9 vr9 m9 fr9 _ => ?_
        have m9' : Mod (fun k => ∃ a, sr.b = some a ∧ k = a.block) w7 w9 := k8.wk.tr (m9.mono fun k _ hk => hk)
        have hp2 : PendW A (ys ++ [(e.m, e.t), (e.f, e.m)]).reverse (x1.tail ++ (x2.tail ++ l')) (2 * x1.length - 3 + (2 * x2.length - 3 + k')) := by
          simp only [List.reverse_append, List.reverse_cons, List.reverse_nil, List.nil_append, List.singleton_append, List.cons_append]
          exact .cons hx1 (.cons hx2 hr)
        refine hX (2 * x1.length - 3 + (2 * x2.length - 3 + k')) _ _ (by omega) ⟨so, r, out, _, left - 1, rfl, vo7.mod m9' (fun a ha ⟨b, hb, e9⟩ => sep a b ha hb e9), vr9, K7.fresh m9' (fun k ⟨a, ha, e9⟩ => by rw [e9]; exact fr a ha), fo, fun b hb => ?_, fun a b ha hb => ?_, by omega, by omega, outl, .inr ⟨_, _, tot, hW, hp2, rfl, by omega, ?_, by have := pend_len hp2; rwa [List.length_reverse] at this⟩⟩
        · rcases fr9 with h9 | ⟨a, ha, hlt⟩
          · exact fr b (by rw [← h9]; exact hb)
          · rw [ha] at hb; cases hb; omega
        · rcases fr9 with h9 | ⟨a', ha', hlt⟩
          · exact sep a b ha (by have h9' : r.b = sr.b := h9; rw [← h9']; exact hb)
          · rw [ha'] at hb; cases hb
            have := lto a ha; omega
        · rw [← hout, hxe]
          obtain ⟨m, rfl⟩ := way_shape hx1
          simp
    refine onSome_i rfl (ld1_i (k := .ptr) (some ⟨H.N.g, 0, none⟩) ((h.keep K4).keep k6').c0 ⟨⟨by omega, by omega⟩, ?_⟩)
    refine ld1_i (k := .int .i64) p (c8 d6).1 ⟨⟨by omega, by omega⟩, ld1_i (k := .int .i64) q (c8 d6).2 ?_⟩
    refine ⟨?_, ?_⟩
    · refine Arc_i ((h.keep K4).keep k6').net (fun e w12 hf k12 => ?_) (fun w12 hf k12 => ?_)
      · refine arc_copy (x := e) fun w14 k14 o14 _ => ?_
        exact found e w14 _ hf o14 ((k6'.tr k12).tr k14)
      · refine arc_copy (x := ⟨0, 0, 0, 0⟩) fun w14 k14 o14 _ => ?_
        exact nof w14 _ hf ((k6'.tr k12).tr k14)
    · refine alloc_i fun w15 o15 k15 z15 => ?_
      have cc := c8 (d6.tr k15)
      refine ⟨cc.2, cc.1, ((h.keep K4).keep (k6'.tr k15)).c0, ?_⟩
      have k615 := k6'.tr k15
      have fz : w4.heap.size ≤ w6.drew.heap.size := k6'.size
      refine Arc_i ((h.keep K4).keep k615).net (fun e w16 hf k16 => ?_) (fun w16 hf k16 => ?_)
      · refine zero_store (o15.mod k16 id) rfl fun w17 o17 m17 => ?_
        exact found e w17 _ hf o17 ((k615.tr k16).fresh m17 fun k e => by rw [show k = _ from e]; exact fz)
      · refine zero_store (x := ⟨0, 0, 0, 0⟩) (o15.mod k16 id) rfl fun w17 o17 m17 => ?_
        exact nof w17 _ hf ((k615.tr k16).fresh m17 fun k e => by rw [show k = _ from e]; exact fz)
  · have hs0 : stk = [] := List.eq_nil_of_length_eq_zero (by omega)
    subst hs0
    rcases hst with ⟨_, h2⟩ | ⟨l, k, tot, hW, hp, _, _, hout, _⟩
    · cases h2
    · cases hp
      rw [List.append_nil] at hout
      subst hout
      exact hyes _ so w4 hW vo K4 fo

/-- The tail of a slice, put behind another. -/
theorem tail_rd {s : Sl} {l : List Int} {w : World} (h : Vec w tInt 1 eI s l) (h1 : 1 ≤ l.length) : Rd w ⟨sliceAddr s.b s.c (Int.toNat (1 : Int)) 1, s.l - Int.toNat (1 : Int), s.c - Int.toNat (1 : Int)⟩ 1 eI l.tail := by
  have hl := h.len
  have hc := h.cap
  have := (h.rd lenI).part (i := 1) (j := s.l) (c := s.c) (by omega) (Nat.le_refl _) hc (Nat.le_refl _)
  have e : (l.drop 1).take (s.l - 1) = l.tail := by
    rw [List.drop_one, List.take_of_length_le (by simp; omega)]
  rwa [e] at this

theorem Row_i {stops : Sl} {xs : List Int} {Q : Sl → Int → World → Prop} (h : LevIs w H n A R) (U : UnpOk n L A R) (hn : n ≤ 30) (hs : Rd w stops 1 eI xs) (hl : xs.length ≤ 1000)
    (hyes : ∀ l s w', rowO A xs = some l → Vec w' tInt 1 eI s l → Keep w w' → (∀ b, s.b = some b → w.heap.size ≤ b.block) → Q s 0 w') (hno : rowO A xs = none → ∀ w', Keep w w' → Q ⟨none, 0, 0⟩ 4 w') : F_unpack_Row (some ⟨H.gl, 0, none⟩) stops w Q := by
  unfold F_unpack_Row
  have sl := hs.len
  have sc := hs.cap
  have hmin : minInt (1 : Int) ((stops.l : Nat) : Int) = ((min 1 stops.l : Nat) : Int) := by unfold minInt; split <;> omega
  rw [hmin, Int.toNat_natCast]
  refine ⟨⟨by omega, by omega⟩, ?_⟩
  have hp := hs.part (i := 0) (j := min 1 stops.l) (c := stops.c) (by omega) (by omega) (by omega) (Nat.le_refl _)
  rw [List.drop_zero, Nat.sub_zero] at hp
  refine CloneI_i hp (by simp; omega) fun s1 w1 v1 k1 f1 => ?_
  have vl1 := v1.len
  refine loop_i (fun c s2 w2 => ∃ (so : Sl) (k : Nat) (out : List Int), s2 = (so, ((k : Int) + 1), ()) ∧ Vec w2 tInt 1 eI so out ∧ Keep w w2 ∧ (∀ b, so.b = some b → w.heap.size ≤ b.block) ∧ c = xs.length - k ∧ out.length ≤ 1 + 30 * k ∧
      ((xs = [] ∧ out = [] ∧ k = 0) ∨ ∃ cur, xs[k]? = some cur ∧ rowO A xs = (rowT A cur (xs.drop (k + 1))).map fun z => out ++ z)) xs.length
    ⟨s1, 0, _, rfl, v1, k1, f1, rfl, by simp; omega, ?_⟩ ?_
  · cases xs with
    | nil => exact .inl ⟨rfl, by simp, rfl⟩
    | cons a r =>
      refine .inr ⟨a, rfl, ?_⟩
      have : min 1 stops.l = 1 := by rw [sl]; simp
      rw [this]; rfl
  rintro c s2 w2 ⟨so, k, out, rfl, vo, K2, fo, rfl, ol, hst⟩ X hX
  dsimp only
  refine cond_d (fun hlt => ?_) (fun hge => ?_)
  · have hk : k + 1 < xs.length := by omega
    rcases hst with ⟨h1, _, _⟩ | ⟨cur, hcur, hrow⟩
    · subst h1; simp at hk
    have hnext := List.getElem?_eq_getElem hk
    generalize xs[k + 1] = nx at hnext
    have d2 : Keep w2 w2.drew := Mod.drew (Mod.refl _ w2)
    have K2d := K2.tr d2
    obtain ⟨pa, hpa, hca⟩ := rd_cell (k := .int .i64) (e := fun x => x) (hs.mod K2d eI_ne fun _ _ => id) hcur
    obtain ⟨pb, hpb, hcb⟩ := rd_cell (k := .int .i64) (e := fun x => x) (hs.mod K2d eI_ne fun _ _ => id) hnext
    rw [w64 (n := (k : Int) + 1 - 1) (by omega) (by omega), show (k : Int) + 1 - 1 = (k : Int) by omega, Int.toNat_natCast, show ((k : Int) + 1).toNat = k + 1 by omega]
    refine ⟨⟨by omega, by omega⟩, onSome_i hpa (ld1_i (k := .int .i64) cur hca ⟨⟨by omega, by omega⟩, onSome_i hpb (ld1_i (k := .int .i64) nx hcb ?_)⟩)⟩
    have hdrop : xs.drop (k + 1) = nx :: xs.drop (k + 2) := by
      obtain ⟨hk', e⟩ := List.getElem?_eq_some_iff.1 hnext
      rw [List.drop_eq_getElem_cons hk', e]
    rw [hdrop] at hrow
    refine Unp_i (h.keep K2d) U hn (fun l s w3 hW v3 k3 f3 => ?_) (fun hnone w3 k3 => ?_)
    · refine cond_i (fun h => by simp at h) (fun _ => ?_)
      have ll := way_len hW
      have ls := way_short U hW
      have vl := v3.len
      refine ⟨⟨by omega, by omega⟩, ?_⟩
      have vo3 := (vo.mod d2 fun _ _ => id).mod k3 fun _ _ => id
      refine append_i elem_sInt lenI oneI vo3 (tail_rd v3 (by omega)) (by simp; omega) (by simp; omega) fun r w4 v4 m4 f4 _ => ?_
      have z23 := k3.size
      have zw := K2d.size
      rw [w64 (n := (k : Int) + 1 + 1) (by omega) (by omega), show (k : Int) + 1 + 1 = ((k + 1 : Nat) : Int) + 1 by omega]
      refine hX (xs.length - (k + 1)) _ _ (by omega) ⟨r, k + 1, _, rfl, v4, (K2d.tr k3).fresh m4 (fun k ⟨a, ha, e⟩ => by rw [e]; exact fo a ha), fun b hb => ?_, rfl, by simp; omega, .inr ⟨nx, hnext, ?_⟩⟩
      · rcases f4 with h4 | ⟨a, ha, hlt4⟩
        · exact fo b (by rw [← h4]; exact hb)
        · rw [ha] at hb; cases hb; omega
      · rw [hrow]
        show Option.map _ (match wayO A cur nx with | none => none | some l => (rowT A nx (xs.drop (k + 2))).map fun z => l.tail ++ z) = _
        rw [(wayO_some U).2 hW]
        simp only [Option.map_map]
        congr 1
        funext z
        simp
    · refine cond_i (fun _ => ?_) (fun h => by simp at h)
      refine hno ?_ w3 (K2d.tr k3)
      rw [hrow]
      show Option.map _ (match wayO A cur nx with | none => none | some l => (rowT A nx (xs.drop (k + 2))).map fun z => l.tail ++ z) = _
      rw [hnone]; rfl
  · rcases hst with ⟨h1, h2, _⟩ | ⟨cur, hcur, hrow⟩
    · subst h1; subst h2
      exact hyes [] so w2 rfl vo K2 fo
    · have hk := (List.getElem?_eq_some_iff.1 hcur).1
      have hd : xs.drop (k + 1) = [] := List.drop_eq_nil_of_le (by omega)
      rw [hd] at hrow
      refine hyes out so w2 ?_ vo K2 fo
      rw [hrow]
      show some (out ++ []) = _
      rw [List.append_nil]
end
end Go.Proofs.Ytkdilapijegogaa

/-
  The document's Unpack, and Row.
-/
namespace Go.Proofs.Ytkdilapijegogaa
open Go Go.Den

section
variable {n : Nat} {A L : List Arc} {R : List Int} {H : RLevS}
theorem rUnp_i {f t : Int} {w : World} {Q : Sl → Bool → World → Prop} (h : RLevIs w H n A R) (U : UnpOk n L A R) (hn : n ≤ 30)
    (hyes : ∀ l s w', WayIs A f t l → Vec w' tInt 1 eI s l → Keep w w' → (∀ b, s.b = some b → w.heap.size ≤ b.block) → Q s true w') (hno : wayO A f t = none → ∀ w', Keep w w' → Q ⟨none, 0, 0⟩ false w') : F_ref4_Levels_Unpack (some ⟨H.gl, 0, none⟩) f t w Q := by
  unfold F_ref4_Levels_Unpack
  intro Rec hRec
  have hAl := h.net.ok.len h.net.sz
  -- one that is there
  have key : ∀ f t l, WayIs A f t l → ∀ (w : World) (Q : Sl → Bool → World → Prop), RLevIs w H n A R → (∀ s w', Vec w' tInt 1 eI s l → Keep w w' → (∀ b, s.b = some b → w.heap.size ≤ b.block) → Q s true w') → Rec (some ⟨H.gl, 0, none⟩) f t w Q := by
    have head : ∀ (e : Arc), e ∈ A → ∀ (w : World) (Q : Sl → Bool → World → Prop), RLevIs w H n A R →
        (∀ b3 w3, Own w3 b3 tArc (eArc e) → Keep w w3 → w.heap.size ≤ b3 →
          ld1 (.int .i64) w3 ((⟨b3, 0, none⟩ : Addr).add 3) fun (x2 : Int) =>
          cond (decide (x2 < (0 : Int)))
          (allocD w3 #[Value.int .i64 e.f, Value.int .i64 e.t] tInt fun a6 w4 =>
          Q ⟨(some a6), 2, 2⟩ true w4)
          (ld1 (.int .i64) w3 ((⟨b3, 0, none⟩ : Addr).add 3) fun (x3 : Int) =>
          Rec (some ⟨H.gl, 0, none⟩) e.f x3 w3 fun (s2 : Sl) (b2 : Bool) w5 =>
          ld1 (.int .i64) w5 ((⟨b3, 0, none⟩ : Addr).add 3) fun (x4 : Int) =>
          Rec (some ⟨H.gl, 0, none⟩) x4 e.t w5 fun (s3 : Sl) (b3 : Bool) w6 =>
          cond (!b2)
          (Q ⟨none, 0, 0⟩ false w6)
          (cond (!b3)
          (Q ⟨none, 0, 0⟩ false w6)
          ((0 ≤ (1 : Int) ∧ (1 : Int) ≤ ((s3.l : Nat) : Int)) ∧
          appendD Try.prog tsInt tsInt s2 (Value.slice (sliceAddr s3.b s3.c (Int.toNat (1 : Int)) 1) (s3.l - (Int.toNat (1 : Int))) (s3.c - (Int.toNat (1 : Int)))) w6 fun (s4 : Sl) w7 =>
          Q s4 true w7)))) → Rec (some ⟨H.gl, 0, none⟩) e.f e.t w Q := by
      intro e he w Q h hgo
      apply hRec
      unfold F_ref4_Levels_Unpack_step
      refine onSome_i rfl (ld1_i (k := .ptr) (some ⟨H.g, 0, none⟩) h.c0 ?_)
      refine rFind_i h.net (by omega) fun i found w1 k1 low hf => ?_
      have hfd : found = true := hf.2 ⟨e, he, rfl, rfl⟩
      have hget := low.found h.net.ok.srt he rfl rfl
      have hlt := (List.getElem?_eq_some_iff.1 hget).1
      subst hfd
      refine cond_i (fun h => by simp at h) (fun _ => ?_)
      have h1 := h.keep k1
      have sl := h1.net.vec.len
      obtain ⟨p, hp, hh⟩ := rd_tup (h1.net.vec.rd lenA) hget
      refine onSome_i rfl (ld1_i (k := .ptr) (some ⟨H.g, 0, none⟩) h1.c0 (onSome_i rfl (ld1_i (k := .slice) H.s h1.net.c1 ⟨⟨by omega, by omega⟩, onSome_i hp ?_⟩)))
      rw [Int.toNat_natCast]
      refine ldN_i (l := [.int .i64, .int .i64, .int .i64, .int .i64]) (tupA e) hh ?_
      refine arc_copy (x := e) fun w3 k3 o3 _ => ?_
      exact hgo _ w3 o3 (k1.tr k3) k1.size
    intro f t l hW
    induction hW with
    | @own e he hm =>
      intro w Q h hQ
      refine head e he w Q h fun b3 w3 o3 k3 f3 => ?_
      refine ld1_i (k := .int .i64) e.m (own_arc o3).2.2.2 ?_
      refine cond_d (fun _ => ?_) (fun hn => absurd hm hn)
      refine alloc_i fun w4 o4 k4 z4 => ?_
      refine hQ _ w4 (Vec.new lenI [e.f, e.t] o4 (by simp [maxLen])) (k3.tr k4) fun b hb => by cases hb; exact k3.size
    | @cut e x y he hm hx hy ih1 ih2 =>
      intro w Q h hQ
      refine head e he w Q h fun b3 w3 o3 k3 f3 => ?_
      refine ld1_i (k := .int .i64) e.m (own_arc o3).2.2.2 ?_
      refine cond_d (fun hneg => absurd hneg (by omega)) (fun _ => ?_)
      refine ld1_i (k := .int .i64) e.m (own_arc o3).2.2.2 ?_
      refine ih1 w3 _ (h.keep k3) fun s2 w5 v5 k5 f5 => ?_
      have o5 := o3.mod k5 id
      refine ld1_i (k := .int .i64) e.m (own_arc o5).2.2.2 ?_
      refine ih2 w5 _ ((h.keep k3).keep k5) fun s3 w6 v6 k6 f6 => ?_
      refine cond_i (fun h => by simp at h) (fun _ => cond_i (fun h => by simp at h) (fun _ => ?_))
      have ly := way_len hy
      have l1 := way_short U hx
      have l2 := way_short U hy
      have vl := v6.len
      refine ⟨⟨by omega, by omega⟩, ?_⟩
      have K6 := (k3.tr k5).tr k6
      refine append_i elem_sInt lenI oneI (v5.mod k6 fun _ _ => id) (tail_rd v6 (by omega)) (by simp; omega) (by simp; omega) fun r w7 v7 m7 f7 _ => ?_
      have z3 := k3.size
      have z5 := K6.size
      have g5 : ∀ b, s2.b = some b → w.heap.size ≤ b.block := fun b hb => by have := f5 b hb; omega
      refine hQ r w7 v7 (K6.fresh m7 fun k ⟨a, ha, e⟩ => by rw [e]; exact g5 a ha) fun b hb => ?_
      rcases f7 with h7 | ⟨a, ha, hlt⟩
      · exact g5 b (by rw [← h7]; exact hb)
      · rw [ha] at hb; cases hb; omega
  cases hw : wayO A f t with
  | some l =>
    have hW := (wayO_some U).1 hw
    exact key f t l hW w Q h fun s w' v k fr => hyes l s w' hW v k fr
  | none =>
    apply hRec
    unfold F_ref4_Levels_Unpack_step
    refine onSome_i rfl (ld1_i (k := .ptr) (some ⟨H.g, 0, none⟩) h.c0 ?_)
    refine rFind_i h.net (by omega) fun i found w1 k1 low hf => ?_
    have hfd : found = false := by
      cases found with
      | false => rfl
      | true =>
        obtain ⟨e, he, e1, e2⟩ := hf.1 rfl
        obtain ⟨l, hl⟩ := way_of U he
        rw [e1, e2] at hl
        rw [(wayO_some U).2 hl] at hw; cases hw
    subst hfd
    exact cond_i (fun _ => hno hw w1 k1) (fun h => by simp at h)

theorem rRow_i {stops : Sl} {xs : List Int} {w : World} {Q : Sl → Bool → World → Prop} (h : RLevIs w H n A R) (U : UnpOk n L A R) (hn : n ≤ 30) (hs : Rd w stops 1 eI xs) (hl : xs.length ≤ 1000)
    (hyes : ∀ l s w', rowO A xs = some l → Vec w' tInt 1 eI s l → Keep w w' → Q s true w') (hno : rowO A xs = none → ∀ w', Keep w w' → Q ⟨none, 0, 0⟩ false w') : F_ref4_Levels_Row (some ⟨H.gl, 0, none⟩) stops w Q := by
  unfold F_ref4_Levels_Row
  have sl := hs.len
  have sc := hs.cap
  refine cond_i (fun h0 => ?_) (fun h0 => ?_)
  · have : xs = [] := by
      cases xs with
      | nil => rfl
      | cons a r => rw [sl] at h0; simp at h0; omega
    subst this
    exact hyes [] _ w rfl (Vec.nil _ _ _ _) (Mod.refl _ _)
  cases hx : xs with
  | nil => subst hx; rw [sl] at h0; simp at h0
  | cons a rest =>
  have hxl : xs.length = rest.length + 1 := by rw [hx]; rfl
  have hhead : xs[0]? = some a := by rw [hx]; rfl
  obtain ⟨pz, hpz, hcz⟩ := rd_cell (k := .int .i64) (e := fun x => x) hs hhead
  refine ⟨⟨by omega, by omega⟩, onSome_i hpz (ld1_i (k := .int .i64) a hcz ?_)⟩
  refine alloc_i fun w1 o1 k1 z1 => ?_
  have v1 : Vec w1 tInt 1 eI ⟨some ⟨w.heap.size, 0, none⟩, 1, 1⟩ [a] := Vec.new lenI [a] o1 (by simp [maxLen])
  refine loop_i (fun c s2 w2 => ∃ (so : Sl) (k : Nat) (out : List Int) (cur : Int), s2 = (so, (k : Int), ()) ∧ Vec w2 tInt 1 eI so out ∧ Keep w w2 ∧ (∀ b, so.b = some b → w.heap.size ≤ b.block) ∧ c = xs.length - k ∧ out.length ≤ 1 + 30 * k ∧
      xs[k]? = some cur ∧ rowO A xs = (rowT A cur (xs.drop (k + 1))).map fun z => out ++ z) xs.length
    ⟨_, 0, [a], a, rfl, v1, k1, fun b hb => by cases hb; exact Nat.le_refl _, rfl, by simp, hhead, by rw [hx]; rfl⟩ ?_
  rintro c s2 w2 ⟨so, k, out, cur, rfl, vo, K2, fo, rfl, ol, hcur, hrow⟩ X hX
  have hkl := (List.getElem?_eq_some_iff.1 hcur).1
  dsimp only
  rw [wi_ k (by omega)]
  refine cond_d (fun hlt => ?_) (fun hge => ?_)
  · have hk : k + 1 < xs.length := by omega
    have hnext := List.getElem?_eq_getElem hk
    generalize xs[k + 1] = nx at hnext
    have d2 : Keep w2 w2.drew := Mod.drew (Mod.refl _ w2)
    have K2d := K2.tr d2
    obtain ⟨pa, hpa, hca⟩ := rd_cell (k := .int .i64) (e := fun x => x) (hs.mod K2d eI_ne fun _ _ => id) hcur
    obtain ⟨pb, hpb, hcb⟩ := rd_cell (k := .int .i64) (e := fun x => x) (hs.mod K2d eI_ne fun _ _ => id) hnext
    rw [Int.toNat_natCast, Int.toNat_natCast]
    refine ⟨⟨by omega, by omega⟩, onSome_i hpa (ld1_i (k := .int .i64) cur hca ⟨⟨by omega, by omega⟩, onSome_i hpb (ld1_i (k := .int .i64) nx hcb ?_)⟩)⟩
    have hdrop : xs.drop (k + 1) = nx :: xs.drop (k + 2) := by
      obtain ⟨hk', e⟩ := List.getElem?_eq_some_iff.1 hnext
      rw [List.drop_eq_getElem_cons hk', e]
    rw [hdrop] at hrow
    refine rUnp_i (h.keep K2d) U hn (fun l s w3 hW v3 k3 f3 => ?_) (fun hnone w3 k3 => ?_)
    · refine cond_i (fun h => by simp at h) (fun _ => ?_)
      have ll := way_len hW
      have ls := way_short U hW
      have vl := v3.len
      refine ⟨⟨by omega, by omega⟩, ?_⟩
      have vo3 := (vo.mod d2 fun _ _ => id).mod k3 fun _ _ => id
      refine append_i elem_sInt lenI oneI vo3 (tail_rd v3 (by omega)) (by simp; omega) (by simp; omega) fun r w4 v4 m4 f4 _ => ?_
      have z23 := k3.size
      have zw := K2d.size
      refine hX (xs.length - (k + 1)) _ _ (by omega) ⟨r, k + 1, _, nx, rfl, v4, (K2d.tr k3).fresh m4 (fun k ⟨a, ha, e⟩ => by rw [e]; exact fo a ha), fun b hb => ?_, rfl, by simp; omega, hnext, ?_⟩
      · rcases f4 with h4 | ⟨a, ha, hlt4⟩
        · exact fo b (by rw [← h4]; exact hb)
        · rw [ha] at hb; cases hb; omega
      · rw [hrow]
        show Option.map _ (match wayO A cur nx with | none => none | some l => (rowT A nx (xs.drop (k + 2))).map fun z => l.tail ++ z) = _
        rw [(wayO_some U).2 hW]
        simp only [Option.map_map]
        congr 1
        funext z
        simp
    · refine cond_i (fun _ => ?_) (fun h => by simp at h)
      refine hno ?_ w3 (K2d.tr k3)
      rw [hrow]
      show Option.map _ (match wayO A cur nx with | none => none | some l => (rowT A nx (xs.drop (k + 2))).map fun z => l.tail ++ z) = _
      rw [hnone]; rfl
  · have hd : xs.drop (k + 1) = [] := List.drop_eq_nil_of_le (by omega)
    rw [hd] at hrow
    refine hyes out so w2 ?_ vo K2
    rw [hrow]
    show some (out ++ []) = _
    rw [List.append_nil]
end
end Go.Proofs.Ytkdilapijegogaa

/-
  Whether two rows of whole numbers are the same.
-/
namespace Go.Proofs.Ytkdilapijegogaa
open Go Go.Den

theorem Ints_i {a b : Sl} {xs ys : List Int} {w : World} {Q : Bool → World → Prop} (ha : Rd w a 1 eI xs) (hb : Rd w b 1 eI ys) (hl : xs.length < 1000000) (hQ : ∀ (r : Bool) w', Keep w w' → (r = true ↔ xs = ys) → Q r w') : F_alike_Ints a b w Q := by
  unfold F_alike_Ints
  have la := ha.len
  have lb := hb.len
  refine cond_i (fun h => ?_) (fun h => ?_)
  · refine hQ false w (Mod.refl _ _) ⟨fun h => (by cases h), fun e => ?_⟩
    rw [la, lb, e] at h; simp at h
  · have hab : xs.length = ys.length := by simp at h; omega
    refine loop_i (fun c t w1 => ∃ (i : Nat), i ≤ xs.length ∧ c = xs.length - i ∧ t = ((i : Int), ()) ∧ Keep w w1 ∧ ∀ j, j < i → xs[j]? = ys[j]?) xs.length ⟨0, Nat.zero_le _, rfl, rfl, Mod.refl _ _, fun j hj => by omega⟩ ?_
    rintro c t w1 ⟨i, hi, rfl, rfl, k1, he⟩ X hX
    dsimp only
    refine cond_d (fun hlt => ?_) (fun hge => ?_)
    · have hx := List.getElem?_eq_getElem (show i < xs.length by omega)
      have hy := List.getElem?_eq_getElem (show i < ys.length by omega)
      have d1 : Keep w1 w1.drew := Mod.drew (Mod.refl _ w1)
      have K1 := k1.tr d1
      obtain ⟨p, hp, hc⟩ := rd_cell (k := .int .i64) (e := fun x => x) (ha.mod K1 eI_ne fun _ _ => id) hx
      obtain ⟨p', hp', hc'⟩ := rd_cell (k := .int .i64) (e := fun x => x) (hb.mod K1 eI_ne fun _ _ => id) hy
      rw [Int.toNat_natCast]
      refine ⟨⟨by omega, hlt⟩, onSome_i hp (ld1_i (k := .int .i64) xs[i] hc ⟨⟨by omega, by omega⟩, onSome_i hp' (ld1_i (k := .int .i64) ys[i] hc' ?_)⟩)⟩
      refine cond_i (fun hne => ?_) (fun heq => ?_)
      · refine hQ false _ K1 ⟨fun h => (by cases h), fun e => ?_⟩
        subst e
        exact absurd hne (by show ¬ ((xs[i] != xs[i]) = true); simp)
      · have heq' : xs[i] = ys[i] := by
          have : (xs[i] != ys[i]) = false := heq
          simpa using this
        rw [w64 (by omega) (by omega)]
        refine hX (xs.length - (i + 1)) _ _ (by omega) ⟨i + 1, by omega, rfl, rfl, K1, fun j hj => ?_⟩
        rcases Nat.lt_or_ge j i with h | h
        · exact he j h
        · have : j = i := by omega
          subst this
          rw [hx, hy, heq']
    · refine hQ true w1 k1 ⟨fun _ => ?_, fun _ => rfl⟩
      apply List.ext_getElem?
      intro j
      by_cases hj : j < xs.length
      · exact he j (by omega)
      · rw [List.getElem?_eq_none (by omega), List.getElem?_eq_none (by omega)]
end Go.Proofs.Ytkdilapijegogaa

/-
  Chapter 17's laws: what 'UnpackTells' computes is true.
-/
namespace Go.Proofs.Ytkdilapijegogaa
open Go Go.Den

theorem awake17_i {w : World} {Q : Bool → World → Prop} (hQ : ∀ w', Keep w w' → Q true w') : F_law17_awake w Q := by
  unfold F_law17_awake
  refine alloc_i fun w1 o1 k1 z1 => ?_
  refine built_i (by omega) (by omega) ((Vec.new lenR3 [((0 : Int), (1 : Int), (0 : Int))] o1 (by simp [maxLen])).rd lenR3) (by simp) fun w2 H RH g s hH _ hR k2 _ => ?_
  have K2 := k1.tr k2
  have U := bld_unp hR.ok (fun e he => (netOf_w e he).1) (fun e he => (netOf_w e he).2) (by decide)
  have hA : (bldN (2 : Int).toNat (netOf 2 [((0 : Int), (1 : Int), (0 : Int))]) (2 : Int).toNat).all = [⟨0, 1, 1, -1⟩] := by decide +kernel
  rw [hA] at hH U
  generalize (bldN (2 : Int).toNat (netOf 2 [((0 : Int), (1 : Int), (0 : Int))]) (2 : Int).toNat).rank = R at *
  have n30 : (2 : Int).toNat ≤ 30 := by decide
  have way01 : WayIs [(⟨0, 1, 1, -1⟩ : Arc)] 0 1 [0, 1] := WayIs.own (e := ⟨0, 1, 1, -1⟩) (by simp) (by decide)
  have no10 : wayO [(⟨0, 1, 1, -1⟩ : Arc)] 1 0 = none := wayO_none U (by decide +kernel)
  refine cond_i (fun h => by simp at h) (fun _ => ?_)
  refine Unp_i hH U n30 (fun l s1 w3 hW v3 k3 _ => ?_) (fun hn w3 k3 => by rw [(wayO_some U).2 way01] at hn; cases hn)
  obtain rfl := way_uniq U way01 hW
  have h3 := hH.keep k3
  refine Unp_i h3 U n30 (fun l s2 w4 hW _ _ _ => by rw [(wayO_some U).2 hW] at no10; cases no10) (fun _ w4 k4 => ?_)
  refine alloc_i fun w5 o5 k5 z5 => ?_
  have h5 := (h3.keep k4).keep k5
  refine Row_i h5 U n30 ((Vec.new lenI [(1 : Int)] o5 (by simp [maxLen])).rd lenI) (by simp) (fun l s3 w6 hl v6 k6 _ => ?_) (fun hn => by cases hn)
  obtain rfl : [(1 : Int)] = l := Option.some.inj hl
  have h6 := h5.keep k6
  refine Row_i h6 U n30 (Rd.nil _ _ _) (by simp) (fun l s4 w7 hl v7 k7 _ => ?_) (fun hn => by cases hn)
  obtain rfl : ([] : List Int) = l := Option.some.inj hl
  refine Unp_none ?_
  refine cond_i (fun _ => ?_) (fun h => by simp at h)
  refine alloc_i fun w9 o9 k9 z9 => ?_
  have k39 := ((((k4.tr k5).tr k6).tr k7).tr k9)
  refine Ints_i ((v3.mod k39 fun _ _ => id).rd lenI) ((Vec.new lenI [(0 : Int), (1 : Int)] o9 (by simp [maxLen])).rd lenI) (by simp) fun b1 w10 k10 hb1 => ?_
  refine cond_i (fun _ => ?_) (fun h => by rw [hb1.2 rfl] at h; cases h)
  refine cond_i (fun _ => ?_) (fun h => by simp at h)
  refine cond_i (fun _ => ?_) (fun h => by simp at h)
  refine alloc_i fun w11 o11 k11 z11 => ?_
  have k611 := ((k7.tr k9).tr k10).tr k11
  refine Ints_i ((v6.mod k611 fun _ _ => id).rd lenI) ((Vec.new lenI [(1 : Int)] o11 (by simp [maxLen])).rd lenI) (by simp) fun b2 w12 k12 hb2 => ?_
  refine cond_i (fun _ => ?_) (fun h => by rw [hb2.2 rfl] at h; cases h)
  refine cond_i (fun _ => ?_) (fun h => by simp at h)
  have l7 := v7.len
  refine cond_i (fun _ => ?_) (fun h => by rw [l7] at h; simp at h)
  exact hQ w12 ((((((K2.tr k3).tr k39).tr k10).tr k11).tr k12))

theorem UnpackTells_i {n : Int} {l stops : Sl} {rows : List R3} {xs : List Int} {W : World} {Q : Bool → World → Prop} (hl : Rd W l 3 eR3 rows) (hs : Rd W stops 1 eI xs) (hQ : ∀ w', Keep W w' → Q true w') : F_law17_UnpackTells n l stops W Q := by
  unfold F_law17_UnpackTells
  have hll := hl.len
  have hsl := hs.len
  refine cond_d (fun h => awake17_i hQ) (fun h1 => ?_)
  refine cond_d (fun h => awake17_i hQ) (fun h2 => ?_)
  refine cond_d (fun h => awake17_i hQ) (fun h3 => ?_)
  refine cond_d (fun h => awake17_i hQ) (fun h4 => ?_)
  refine built_i (by omega) (by omega) hl (by omega) fun w5 H RH g s hH hRH hR k5 _ => ?_
  have U := bld_unp hR.ok (fun e he => (netOf_w e he).1) (fun e he => (netOf_w e he).2) (by omega)
  generalize (bldN n.toNat (netOf n rows) n.toNat).all = A at *
  generalize (bldN n.toNat (netOf n rows) n.toNat).rank = R at *
  have n30 : n.toNat ≤ 30 := by omega
  refine cond_i (fun h => by simp at h) (fun _ => ?_)
  refine loop_i (fun c t w6 => ∃ i : Nat, (i : Int) ≤ n + 2 ∧ c = n.toNat + 2 - i ∧ t = ((i : Int) - 1, ()) ∧ Keep w5 w6) (n.toNat + 2) ⟨0, by omega, rfl, rfl, Mod.refl _ _⟩ ?_
  rintro c t w6 ⟨i, hi, rfl, rfl, k6⟩ X hX
  dsimp only
  refine cond_d (fun hle => ?_) (fun hgt => ?_)
  · refine loop_i (fun c t w7 => ∃ j : Nat, (j : Int) ≤ n + 2 ∧ c = n.toNat + 2 - j ∧ t = ((j : Int) - 1, ()) ∧ Keep w5 w7) (n.toNat + 2) ⟨0, by omega, rfl, rfl, k6⟩ ?_
    rintro c t w7 ⟨j, hj, rfl, rfl, k7⟩ Y hY
    dsimp only
    refine cond_d (fun hle2 => ?_) (fun hgt2 => ?_)
    · have next : ∀ w10, Keep w5 w10 → Y (IntKind.wrap .i64 ((j : Int) - 1 + 1), ()) w10 := fun w10 k10 => by
        rw [w64 (n := (j : Int) - 1 + 1) (by omega) (by omega)]
        exact hY (n.toNat + 2 - (j + 1)) _ _ (by omega) ⟨j + 1, by omega, rfl, by rw [show ((j + 1 : Nat) : Int) - 1 = (j : Int) - 1 + 1 by omega], k10⟩
      refine Unp_i (hH.keep k7) U n30 (fun l1 s1 w8 hW v8 k8 _ => ?_) (fun hno w8 k8 => ?_)
      · refine rUnp_i (hRH.keep (k7.tr k8)) U n30 (fun l2 s2 w9 hW2 v9 k9 _ => ?_) (fun hn w9 k9 => by rw [(wayO_some U).2 hW] at hn; cases hn)
        obtain rfl := way_uniq U hW hW2
        have := way_short U hW
        refine Ints_i ((v8.mod k9 fun _ _ => id).rd lenI) (v9.rd lenI) (by omega) fun b w10 k10 hb => ?_
        refine cond_i (fun h => by rw [hb.2 rfl] at h; cases h) (fun _ => ?_)
        refine cond_i (fun h => by simp at h) (fun _ => cond_i (fun h => by simp at h) (fun _ => ?_))
        exact next w10 (((k7.tr k8).tr k9).tr k10)
      · refine rUnp_i (hRH.keep (k7.tr k8)) U n30 (fun l2 s2 w9 hW2 v9 k9 _ => by rw [(wayO_some U).2 hW2] at hno; cases hno) (fun _ w9 k9 => ?_)
        refine Ints_i (Rd.nil _ _ _) (Rd.nil _ _ _) (by simp) fun b w10 k10 hb => ?_
        refine cond_i (fun h => by rw [hb.2 rfl] at h; cases h) (fun _ => ?_)
        refine cond_i (fun h => by simp at h) (fun _ => cond_i (fun _ => ?_) (fun h => by simp at h))
        refine cond_i (fun h => by simp at h) (fun _ => ?_)
        exact next w10 (((k7.tr k8).tr k9).tr k10)
    · rw [w64 (n := (i : Int) - 1 + 1) (by omega) (by omega)]
      exact hX (n.toNat + 2 - (i + 1)) _ _ (by omega) ⟨i + 1, by omega, rfl, by rw [show ((i + 1 : Nat) : Int) - 1 = (i : Int) - 1 + 1 by omega], k7⟩
  · have K6 := k5.tr k6
    refine Row_i (hH.keep k6) U n30 (hs.mod K6 eI_ne fun _ _ => id) (by omega) (fun l1 s1 w8 hr v8 k8 _ => ?_) (fun hno w8 k8 => ?_)
    · refine rRow_i (hRH.keep (k6.tr k8)) U n30 (hs.mod (K6.tr k8) eI_ne fun _ _ => id) (by omega) (fun l2 s2 w9 hr2 v9 k9 => ?_) (fun hn w9 k9 => by rw [hr] at hn; cases hn)
      rw [hr] at hr2; cases hr2
      refine Ints_i ((v8.mod k9 fun _ _ => id).rd lenI) (v9.rd lenI) (row_len U n30 hr (by omega)) fun b w10 k10 hb => ?_
      refine cond_i (fun _ => ?_) (fun h => by rw [hb.2 rfl] at h; cases h)
      refine cond_i (fun _ => ?_) (fun h => by simp at h)
      exact awake17_i fun w' k' => hQ w' ((((K6.tr k8).tr k9).tr k10).tr k')
    · refine rRow_i (hRH.keep (k6.tr k8)) U n30 (hs.mod (K6.tr k8) eI_ne fun _ _ => id) (by omega) (fun l2 s2 w9 hr2 v9 k9 => by rw [hno] at hr2; cases hr2) (fun hn w9 k9 => ?_)
      refine Ints_i (Rd.nil _ _ _) (Rd.nil _ _ _) (by simp) fun b w10 k10 hb => ?_
      refine cond_i (fun _ => ?_) (fun h => by rw [hb.2 rfl] at h; cases h)
      refine cond_i (fun _ => ?_) (fun h => by simp at h)
      exact awake17_i fun w' k' => hQ w' ((((K6.tr k8).tr k9).tr k10).tr k')

theorem UnpackArcs_i {n : Int} {l : Sl} {rows : List R3} {W : World} {Q : Bool → World → Prop} (hl : Rd W l 3 eR3 rows) (hQ : ∀ w', Keep W w' → Q true w') : F_law17_UnpackArcs n l W Q := by
  unfold F_law17_UnpackArcs
  have hll := hl.len
  refine cond_d (fun h => awake17_i hQ) (fun h1 => ?_)
  refine cond_d (fun h => awake17_i hQ) (fun h2 => ?_)
  refine cond_d (fun h => awake17_i hQ) (fun h3 => ?_)
  refine built_i (by omega) (by omega) hl (by omega) fun w4 H RH g s hH _ hR k4 _ => ?_
  have U := bld_unp hR.ok (fun e he => (netOf_w e he).1) (fun e he => (netOf_w e he).2) (by omega)
  have hLl := hR.ok.len hR.sz
  generalize (bldN n.toNat (netOf n rows) n.toNat).all = A at *
  generalize (bldN n.toNat (netOf n rows) n.toNat).rank = R at *
  generalize netOf n rows = L at *
  have hAl := U.ok.len hR.sz
  have n30 : n.toNat ≤ 30 := by omega
  refine cond_i (fun h => by simp at h) (fun _ => ?_)
  refine onSome_i rfl (ld1_i (k := .ptr) (some ⟨H.N.g, 0, none⟩) hH.c0 ?_)
  refine All_i hH.net (by omega) fun s1 w5 v5 k5 _ => ?_
  have sl1 := v5.len
  refine loop_i (fun c t w6 => ∃ i : Nat, i ≤ A.length ∧ c = A.length - i ∧ t = ((i : Int), ()) ∧ Keep w5 w6) A.length ⟨0, Nat.zero_le _, rfl, rfl, Mod.refl _ _⟩ ?_
  rintro c t w6 ⟨i, hi, rfl, rfl, k6⟩ X hX
  dsimp only
  refine cond_d (fun hlt => ?_) (fun hge => awake17_i fun w' k' => hQ w' (((k4.tr k5).tr k6).tr k'))
  have hi' : i < A.length := by omega
  have hmem := List.getElem_mem hi'
  have hget := List.getElem?_eq_getElem hi'
  generalize A[i] = e at *
  have hme := U.ok.may e hmem
  have d6 : Keep w6 w6.drew := Mod.drew (Mod.refl _ w6)
  have k6d := k6.tr d6
  have bi : 0 ≤ (i : Int) ∧ (i : Int) < (s1.l : Int) := ⟨by omega, hlt⟩
  have cell : ∀ {wx : World}, Keep w5 wx → ∃ p, s1.b = some p ∧ wx.cell? ((p.add (i * 4)).add 0) = some (.int .i64 e.f) ∧ wx.cell? ((p.add (i * 4)).add 1) = some (.int .i64 e.t) ∧ wx.cell? ((p.add (i * 4)).add 2) = some (.int .i64 e.w) := fun kx => by
    obtain ⟨p, hp, hh⟩ := rd_tup ((v5.mod kx fun _ _ => id).rd lenA) hget
    exact ⟨p, hp, hh.1, hh.2.1, hh.2.2.1⟩
  obtain ⟨p, hp, c0, c1, _⟩ := cell k6d
  rw [Int.toNat_natCast]
  refine ⟨bi, onSome_i hp (ld1_i (k := .int .i64) e.f c0 ⟨bi, onSome_i hp (ld1_i (k := .int .i64) e.t c1 ?_)⟩)⟩
  obtain ⟨lw, hW⟩ := way_of U hmem
  refine Unp_i ((hH.keep k5).keep k6d) U n30 (fun l2 s2 w7 hW2 v7 k7 _ => ?_) (fun hn w7 k7 => by rw [(wayO_some U).2 hW] at hn; cases hn)
  obtain rfl := way_uniq U hW hW2
  have hal := way_along U hW e hmem rfl rfl
  have hlen := way_len hW
  have hshort := way_short U hW
  have vl7 := v7.len
  obtain ⟨m, hm⟩ := way_shape hW
  have hfirst : lw[0]? = some e.f := by rw [hm]; rfl
  have hlast : lw[lw.length - 1]? = some e.t := by rw [hm]; simp
  have d7 : Keep w7 w7.drew := Mod.drew (Mod.refl _ w7)
  have k57 := (k6d.tr k7).tr d7
  have vi : ∀ {wx : World} {q : Nat} {x : Int}, Keep w7 wx → lw[q]? = some x → ∃ p, s2.b = some p ∧ wx.cell? (p.add (q * 1)) = some (.int .i64 x) := fun kx hx => rd_cell (k := .int .i64) (e := fun x => x) ((v7.mod kx fun _ _ => id).rd lenI) hx
  refine cond_i (fun h => by simp at h) (fun _ => cond_d (fun h => by omega) (fun _ => ?_))
  obtain ⟨p0, hp0, hc0⟩ := vi d7 hfirst
  obtain ⟨p1, hp1, hc1⟩ := vi d7 hlast
  obtain ⟨p', hp', c0', c1', _⟩ := cell k57
  refine ⟨⟨by omega, by omega⟩, onSome_i hp0 (ld1_i (k := .int .i64) e.f hc0 ⟨bi, onSome_i hp' (ld1_i (k := .int .i64) e.f c0' ?_)⟩)⟩
  refine cond_i (fun h => by simp at h) (fun _ => ?_)
  have wl : IntKind.wrap .i64 (((s2.l : Nat) : Int) - (1 : Int)) = ((lw.length - 1 : Nat) : Int) := by rw [vl7, w64 (by omega) (by omega)]; omega
  rw [wl, Int.toNat_natCast]
  refine ⟨⟨by omega, by omega⟩, onSome_i hp1 (ld1_i (k := .int .i64) e.t hc1 ⟨bi, onSome_i hp' (ld1_i (k := .int .i64) e.t c1' ?_)⟩)⟩
  refine cond_i (fun h => by simp at h) (fun _ => ?_)
  -- the sum
  have wbig : e.w ≤ 1099511627776 := hme.2.2.2.2.2.2.1
  refine loop_i (fun c t w8 => ∃ (k : Nat) (sum d : Int), k < lw.length ∧ c = lw.length - k ∧ t = (sum, (k : Int), ()) ∧ Along L (lw.drop k) d ∧ sum + d = e.w ∧ 0 ≤ sum ∧ Keep w7 w8) lw.length ⟨0, 0, e.w, by omega, by omega, rfl, hal, by omega, Int.le_refl _, d7⟩ ?_
  rintro c t w8 ⟨k, sum, d, hk, rfl, rfl, hd, hsum, h0, k8⟩ Y hY
  dsimp only
  rw [wi_ k (by omega)]
  refine cond_d (fun hlt2 => ?_) (fun hge2 => ?_)
  · have hk' : k + 1 < lw.length := by omega
    have g1 := List.getElem?_eq_getElem hk
    have g2 := List.getElem?_eq_getElem hk'
    have hdrop : lw.drop k = lw[k] :: lw[k + 1] :: lw.drop (k + 2) := by rw [List.drop_eq_getElem_cons hk, List.drop_eq_getElem_cons hk']
    have hdrop' : lw.drop (k + 1) = lw[k + 1] :: lw.drop (k + 2) := by rw [List.drop_eq_getElem_cons hk']
    rw [hdrop] at hd
    rw [← hdrop] at hd
    generalize lw[k] = x at *
    generalize lw[k + 1] = y at *
    rw [hdrop] at hd
    cases hd with
    | @cons a _ _ _ d' ha hf ht hd' =>
    rw [← hdrop'] at hd'
    have d8 : Keep w8 w8.drew := Mod.drew (Mod.refl _ w8)
    obtain ⟨q1, hq1, hcq1⟩ := vi (k8.tr d8) g1
    obtain ⟨q2, hq2, hcq2⟩ := vi (k8.tr d8) g2
    rw [Int.toNat_natCast, Int.toNat_natCast]
    refine ⟨⟨by omega, by omega⟩, onSome_i hq1 (ld1_i (k := .int .i64) x hcq1 ⟨⟨by omega, by omega⟩, onSome_i hq2 (ld1_i (k := .int .i64) y hcq2 ?_)⟩)⟩
    have hR8 := (((hR.keep k5).keep (k6d.tr k7)).keep k8).keep d8
    refine rFind_i hR8 (by omega) fun j found w9 k9 low hfd => ?_
    have hfound : found = true := hfd.2 ⟨a, ha, hf, ht⟩
    subst hfound
    have hgj := low.found hR8.ok.srt ha hf ht
    have hjl := (List.getElem?_eq_some_iff.1 hgj).1
    refine cond_i (fun h => by simp at h) (fun _ => ?_)
    have hR9 := hR8.keep k9
    have sl9 := hR9.vec.len
    obtain ⟨pj, hpj, hhj⟩ := rd_tup (hR9.vec.rd lenA) hgj
    refine onSome_i rfl (ld1_i (k := .slice) s hR9.c1 ⟨⟨by omega, by omega⟩, onSome_i hpj ?_⟩)
    rw [Int.toNat_natCast]
    refine ld1_i (k := .int .i64) a.w hhj.2.2.1 ?_
    have hd0 := hd'.nonneg U.okl
    have ha0 := (U.okl.may a ha).2.2.2.2.2.1
    rw [w64 (n := sum + a.w) (by omega) (by omega)]
    exact hY (lw.length - (k + 1)) _ _ (by omega) ⟨k + 1, sum + a.w, d', hk', rfl, rfl, hd', by omega, by omega, (k8.tr d8).tr k9⟩
  · have hke : k + 1 = lw.length := by omega
    have hd0 : d = 0 := by
      rw [List.drop_eq_getElem_cons hk, List.drop_eq_nil_of_le (by omega)] at hd
      cases hd; rfl
    obtain ⟨p8, hp8, _, _, c2⟩ := cell ((k6d.tr k7).tr k8)
    refine ⟨bi, onSome_i hp8 (ld1_i (k := .int .i64) e.w c2 ?_)⟩
    refine cond_i (fun h => ?_) (fun _ => ?_)
    · have : sum = e.w := by omega
      rw [this] at h; simp at h
    · rw [wi_ i (by omega)]
      exact hX _ _ _ (by omega) ⟨i + 1, hi', rfl, rfl, (k6d.tr k7).tr k8⟩

theorem UnpackRows_i {n from_ : Int} {l steps : Sl} {rows : List R3} {xs : List Int} {W : World} {Q : Bool → World → Prop} (hl : Rd W l 3 eR3 rows) (hs : Rd W steps 1 eI xs) (hQ : ∀ w', Keep W w' → Q true w') : F_law17_UnpackRows n l from_ steps W Q := by
  unfold F_law17_UnpackRows
  have hll := hl.len
  have hsl := hs.len
  refine cond_d (fun h => awake17_i hQ) (fun h1 => ?_)
  refine cond_d (fun h => awake17_i hQ) (fun h2 => ?_)
  refine cond_d (fun h => awake17_i hQ) (fun h3 => ?_)
  refine cond_d (fun h => awake17_i hQ) (fun h4 => ?_)
  refine built_i (by omega) (by omega) hl (by omega) fun w5 H RH g s hH _ hR k5 _ => ?_
  have U := bld_unp hR.ok (fun e he => (netOf_w e he).1) (fun e he => (netOf_w e he).2) (by omega)
  generalize (bldN n.toNat (netOf n rows) n.toNat).all = A at *
  generalize (bldN n.toNat (netOf n rows) n.toNat).rank = R at *
  have hAl := U.ok.len hR.sz
  have n30 : n.toNat ≤ 30 := by omega
  refine cond_i (fun h => by simp at h) (fun _ => ?_)
  refine Round_i (by omega) (by omega) ?_
  generalize from_ % n = v0
  refine alloc_i fun w7 o7 k7 z7 => alloc_i fun w8 o8 k8 z8 => ?_
  have v7 : Vec w8 tInt 1 eI ⟨some ⟨w5.heap.size, 0, none⟩, 1, 1⟩ [v0] := (Vec.new lenI [v0] o7 (by simp [maxLen])).mod k8 fun _ _ => id
  have v8 : Vec w8 tInt 1 eI ⟨some ⟨w7.heap.size, 0, none⟩, 1, 1⟩ [v0] := Vec.new lenI [v0] o8 (by simp [maxLen])
  have K8 := k7.tr k8
  intro J hJ
  have done : ∀ (sa sb : Sl) (st wt : List Int) (w9 : World), Vec w9 tInt 1 eI sa st → Vec w9 tInt 1 eI sb wt → st.length ≤ 20 → wt.length ≤ 1000 → rowO A st = some wt → Keep w5 w9 → J (sa, sb, ()) w9 := fun sa sb st wt w9 va vb lst lwt hrow k9 => by
    apply hJ
    dsimp only
    refine Row_i (hH.keep k9) U n30 (va.rd lenI) (by omega) (fun l1 s1 w10 hr v10 k10 _ => ?_) (fun hn => by rw [hrow] at hn; cases hn)
    rw [hrow] at hr; cases hr
    refine cond_i (fun _ => ?_) (fun h => by simp at h)
    refine Ints_i (v10.rd lenI) ((vb.mod k10 fun _ _ => id).rd lenI) (by omega) fun b w11 k11 hb => ?_
    refine cond_i (fun _ => ?_) (fun h => by rw [hb.2 rfl] at h; cases h)
    exact awake17_i fun w' k' => hQ w' ((((k5.tr k9).tr k10).tr k11).tr k')
  refine loop_i (fun c t w13 => ∃ (i : Nat) (v : Int) (sa sb : Sl) (st wt : List Int), i ≤ xs.length ∧ c = xs.length - i ∧ t = (v, sa, sb, (i : Int), ()) ∧ Vec w13 tInt 1 eI sa st ∧ Vec w13 tInt 1 eI sb wt ∧ st.length ≤ 1 + i ∧ wt.length ≤ 1 + 30 * i ∧ rowO A st = some wt ∧ st.getLast? = some v ∧ Keep w5 w13 ∧
      (∀ b, sa.b = some b → w5.heap.size ≤ b.block) ∧ (∀ b, sb.b = some b → w5.heap.size ≤ b.block) ∧ (∀ a b, sa.b = some a → sb.b = some b → a.block ≠ b.block)) xs.length
    ⟨0, v0, _, _, [v0], [v0], Nat.zero_le _, rfl, rfl, v7, v8, by simp, by simp, rfl, rfl, K8, fun b hb => by cases hb; exact Nat.le_refl _, fun b hb => by cases hb; exact k7.size, fun a b ha hb => by cases ha; cases hb; show w5.heap.size ≠ w7.heap.size; omega⟩ ?_
  rintro c t w13 ⟨i, v, sa, sb, st, wt, hi, rfl, rfl, va, vb, lst, lwt, hrow, hlast, k13, fa, fb, sep⟩ X hX
  dsimp only
  refine cond_d (fun hlt => ?_) (fun hge => done sa sb st wt w13 va vb (by omega) (by omega) hrow k13)
  have hi' : i < xs.length := by omega
  refine onSome_i rfl (ld1_i (k := .ptr) (some ⟨H.N.g, 0, none⟩) (hH.keep k13).c0 ?_)
  refine Out_i (hH.keep k13).net fun s2 w14 v14 k14 _ => ?_
  have K14 := k13.tr k14
  have sl2 := v14.len
  have ol := U.ok.out_len v
  refine cond_i (fun h0 => ?_) (fun h0 => ?_)
  · exact done sa sb st wt w14 (va.mod k14 fun _ _ => id) (vb.mod k14 fun _ _ => id) (by omega) (by omega) hrow K14
  have hpos : 0 < (outL A v).length := by
    rw [sl2] at h0; simp at h0
    exact List.length_pos_iff.2 h0
  have hx := List.getElem?_eq_getElem hi'
  generalize xs[i] = x at hx
  obtain ⟨px, hpx, hcx⟩ := rd_cell (k := .int .i64) (e := fun x => x) (hs.mod (k5.tr K14) eI_ne fun _ _ => id) hx
  rw [Int.toNat_natCast]
  refine ⟨⟨by omega, by omega⟩, onSome_i hpx (ld1_i (k := .int .i64) x hcx ?_)⟩
  refine Round_i (by omega) (by omega) ?_
  obtain ⟨q, hq, hql⟩ : ∃ q : Nat, x % ((s2.l : Nat) : Int) = (q : Int) ∧ q < (outL A v).length := by
    have h1 := Int.emod_nonneg x (b := ((s2.l : Nat) : Int)) (by omega)
    have h2 := Int.emod_lt_of_pos x (b := ((s2.l : Nat) : Int)) (by omega)
    exact ⟨(x % ((s2.l : Nat) : Int)).toNat, by omega, by omega⟩
  rw [hq]
  have hgq := List.getElem?_eq_getElem hql
  have hmq := List.getElem_mem hql
  generalize (outL A v)[q] = e at *
  obtain ⟨heA, hef⟩ := mem_outL.1 hmq
  obtain ⟨pe, hpe, hhe⟩ := rd_tup (v14.rd lenA) hgq
  refine ⟨⟨by omega, by omega⟩, onSome_i hpe ?_⟩
  rw [Int.toNat_natCast]
  refine ld1_i (k := .int .i64) e.t hhe.2.1 ?_
  obtain ⟨lw, hW⟩ := way_of U heA
  rw [hef] at hW
  refine Unp_i (hH.keep K14) U n30 (fun l3 s3 w16 hW3 v16 k16 _ => ?_) (fun hn w16 k16 => by rw [(wayO_some U).2 hW] at hn; cases hn)
  obtain rfl := way_uniq U hW hW3
  have hlen := way_len hW
  have hshort := way_short U hW
  have vl16 := v16.len
  refine cond_i (fun h => by simp at h) (fun _ => cond_d (fun h => by omega) (fun _ => ⟨⟨by omega, by omega⟩, ?_⟩))
  have K16 := K14.tr k16
  have kk := k14.tr k16
  refine append_i elem_sInt lenI oneI (vb.mod kk fun _ _ => id) (tail_rd v16 (by omega)) (by simp; omega) (by simp; omega) fun r4 w17 v17 m17 f17 _ => ?_
  have va16 := va.mod kk fun _ _ => id
  have va17 := va16.mod m17 fun a ha ⟨b, hb, e⟩ => sep a b ha hb e
  have K17 : Keep w5 w17 := K16.fresh m17 fun k ⟨a, ha, e⟩ => by rw [e]; exact fb a ha
  have z16 := K16.size
  have z1617 := m17.size
  have f4 : ∀ b, r4.b = some b → w5.heap.size ≤ b.block ∧ (∀ a, sa.b = some a → a.block ≠ b.block) := fun b hb => by
    rcases f17 with h17 | ⟨a, ha, hlt17⟩
    · exact ⟨fb b (by rw [← h17]; exact hb), fun a ha => sep a b ha (by rw [← h17]; exact hb)⟩
    · rw [ha] at hb; cases hb
      exact ⟨by omega, fun a' ha' e => by have := va16.lt ha'; omega⟩
  refine alloc_i fun w18 o18 k18 z18 => ?_
  have v18 : Vec w18 tInt 1 eI ⟨some ⟨w17.heap.size, 0, none⟩, 1, 1⟩ [e.t] := Vec.new lenI [e.t] o18 (by simp [maxLen])
  refine append_i elem_sInt lenI oneI (va17.mod k18 fun _ _ => id) (v18.rd lenI) (by simp; omega) (by simp; omega) fun r5 w19 v19 m19 f19 _ => ?_
  have vb19 := (v17.mod k18 fun _ _ => id).mod m19 fun a ha ⟨b, hb, e⟩ => (f4 a ha).2 b hb e.symm
  have K18 := K17.tr k18
  have z18' := k18.size
  have zz := K17.size
  rw [wi_ i (by omega)]
  refine hX _ _ _ (by omega) ⟨i + 1, e.t, r5, r4, st ++ [e.t], wt ++ lw.tail, hi', rfl, rfl, v19, vb19, by simp; omega, by simp; omega, row_snoc U hrow hlast hW, by simp, K18.fresh m19 (fun k ⟨a, ha, e⟩ => by rw [e]; exact fa a ha), fun b hb => ?_, fun b hb => (f4 b hb).1, fun a b ha hb => ?_⟩
  · rcases f19 with h19 | ⟨a, ha, hlt19⟩
    · exact fa b (by rw [← h19]; exact hb)
    · rw [ha] at hb; cases hb; omega
  · rcases f19 with h19 | ⟨a', ha', hlt19⟩
    · exact (f4 b hb).2 a (by rw [← h19]; exact ha)
    · rw [ha'] at ha; cases ha
      have := v17.lt hb; omega
end Go.Proofs.Ytkdilapijegogaa

/-
  The words that each of the seat's proofs opens with.
-/
namespace Go.Proofs.Ytkdilapijegogaa
open Go Go.Den Go.ChangeShapes Go.WideShapes Go.ChangeAt Go.RowKit

theorem own : ownKnob Try.prog.godebug = none := by kernel_rfl
theorem laid : laidOutB Try.prog = true := by kernel_rfl
theorem call_of {g : FuncId} {T : Tr} (hS : Sound Try.prog g T) {args : List Value} {W : World} (h : T args W fun v w' => v = .bool true ∧ Since W w') : Calls Try.prog g args.toArray W fun e w' => e = .returned (.bool true) ∧ Since W w' :=
  (hS args W _ h).mono fun e w' ⟨v, he, hv, hs⟩ => ⟨by rw [he, hv], hs⟩
def arcOf : List Int → Arc
  | [f, t, w, m] => ⟨f, t, w, m⟩
  | _ => ⟨0, 0, 0, 0⟩
theorem arcOf_enc {r : List Int} (h : r.length = 4) : eArc (arcOf r) = r.map (Value.int .i64) := by
  match r, h with
  | [f, t, w, m], _ => rfl
set_option maxRecDepth 100000 in
theorem arg_arcs {H : Type} {enc : TypeId × Value → H} {W : World} {t b : Nat} {v : Value} {d : DataW H} {ps : List MemPlace} (ht : Try.prog.underlying t = some (.slice tArc)) (hval : Value.okWide Try.prog W .any b t v) (h : DataW.Trod enc Try.prog W 0 (fun _ => true) true t v d ps) :
    ∃ (s : Sl) (xs : List Arc), v = .slice s.b s.l s.c ∧ Rd W s 4 eArc xs := by
  obtain ⟨s, rows, rfl, hr, hl⟩ := arg_rows (m := 4) ht (by kernel_rfl) (by kernel_rfl) hval h
  exact ⟨s, rows.map arcOf, rfl, hr.map arcOf fun r hr => arcOf_enc (hl r hr)⟩
end Go.Proofs.Ytkdilapijegogaa

/-
  Arguments: rows of three, of five, and whole numbers.
-/
namespace Go.Proofs.Ytkdilapijegogaa
open Go Go.Den Go.ChangeShapes Go.WideShapes Go.ChangeAt Go.RowKit

def r3Of : List Int → R3
  | [x, y, z] => (x, y, z)
  | _ => (0, 0, 0)
theorem r3Of_enc {r : List Int} (h : r.length = 3) : eR3 (r3Of r) = r.map (Value.int .i64) := by
  match r, h with
  | [x, y, z], _ => rfl
def i1Of : List Int → Int
  | [x] => x
  | _ => 0
theorem i1Of_enc {r : List Int} (h : r.length = 1) : eI (i1Of r) = r.map (Value.int .i64) := by
  match r, h with
  | [x], _ => rfl
set_option maxRecDepth 100000 in
theorem arg_r3 {H : Type} {enc : TypeId × Value → H} {W : World} {t b : Nat} {v : Value} {d : DataW H} {ps : List MemPlace} (ht : Try.prog.underlying t = some (.slice tArr3)) (hval : Value.okWide Try.prog W .any b t v) (h : DataW.Trod enc Try.prog W 0 (fun _ => true) true t v d ps) :
    ∃ (s : Sl) (xs : List R3), v = .slice s.b s.l s.c ∧ Rd W s 3 eR3 xs := by
  obtain ⟨s, rows, rfl, hr, hl⟩ := arg_rows (m := 3) ht (by kernel_rfl) (by kernel_rfl) hval h
  exact ⟨s, rows.map r3Of, rfl, hr.map r3Of fun r hr => r3Of_enc (hl r hr)⟩
set_option maxRecDepth 100000 in
theorem arg_is {H : Type} {enc : TypeId × Value → H} {W : World} {t b : Nat} {v : Value} {d : DataW H} {ps : List MemPlace} (ht : Try.prog.underlying t = some (.slice tInt)) (hval : Value.okWide Try.prog W .any b t v) (h : DataW.Trod enc Try.prog W 0 (fun _ => true) true t v d ps) :
    ∃ (s : Sl) (xs : List Int), v = .slice s.b s.l s.c ∧ Rd W s 1 eI xs := by
  obtain ⟨s, rows, rfl, hr, hl⟩ := arg_rows (m := 1) ht (by kernel_rfl) (by kernel_rfl) hval h
  exact ⟨s, rows.map i1Of, rfl, hr.map i1Of fun r hr => i1Of_enc (hl r hr)⟩
end Go.Proofs.Ytkdilapijegogaa
