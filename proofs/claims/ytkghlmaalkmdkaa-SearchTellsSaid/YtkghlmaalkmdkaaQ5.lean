/-
  The program's unpack: Arc, and Row.
-/
import Derived.Test.YtkghlmaalkmdkaaFUnp
import Derived.Test.YtkghlmaalkmdkaaA3
import Derived.Test.YtkghlmaalkmdkaaQ3
import Derived.Test.YtkghlmaalkmdkaaFSea
import Derived.Test.YtkghlmaalkmdkaaQ1
import Derived.Test.YtkghlmaalkmdkaaA4
import Derived.Test.YtkghlmaalkmdkaaQ4
import Derived.Test.YtkghlmaalkmdkaaFWit
namespace Go.Proofs.Ytkghlmaalkmdkaa
open Go Go.Den

abbrev eP (p : Int × Int) : List Value := [.int .i64 p.1, .int .i64 p.2]
theorem lenP : ∀ p : Int × Int, (eP p).length = 2 := fun _ => rfl
theorem oneP : ∀ p : Int × Int, ∀ u ∈ eP p, u.oneCell' = true := by intro p u hu; simp at hu; rcases hu with rfl | rfl <;> rfl
theorem pair_store {w : World} {g : Nat} {cs : List Value} {p : Int × Int} {K : World → Prop} (h : Own w g tArr2 cs) (hl : cs.length = 2) (hK : ∀ w', Own w' g tArr2 (eP p) → Mod (fun k => k = g) w w' → K w') :
    storeD Try.prog tArr2 ⟨g, 0, none⟩ (Value.agg #[Value.int .i64 p.1, Value.int .i64 p.2]) w K := by
  refine storeD_i h size_Arr2 (by simp [Value.cells, hl]) (by simp [Value.cells, Value.oneCell']) fun w' ho hm _ => hK w' ?_ hm
  have : cs.take 0 ++ (Value.agg #[Value.int .i64 p.1, Value.int .i64 p.2]).cells.toList ++ cs.drop (0 + (Value.agg #[Value.int .i64 p.1, Value.int .i64 p.2]).cells.size) = eP p := by
    simp [Value.cells, List.drop_of_length_le (show cs.length ≤ 2 by omega)]
  rwa [this] at ho
/-- A slice over a new block. -/
theorem Vec.new {α : Type} {w : World} {e : TypeId} {n : Nat} {enc : α → List Value} {g : Nat} (henc : ∀ x, (enc x).length = n) (xs : List α) (h : Own w g e (xs.flatMap enc)) (hm : xs.length ≤ maxLen) : Vec w e n enc ⟨some ⟨g, 0, none⟩, xs.length, xs.length⟩ xs :=
  ⟨rfl, Nat.le_refl _, hm, .inr ⟨g, [], rfl, by rw [List.append_nil]; exact h, by rw [List.append_nil]; exact length_flatMap_enc henc xs⟩⟩

theorem CloneI_i {s : Sl} {xs : List Int} {w : World} {Q : Sl → World → Prop} (hs : Rd w s 1 eI xs) (hb : xs.length < 1099511627776)
    (hQ : ∀ s' w', Vec w' tInt 1 eI s' xs → Keep w w' → (∀ b, s'.b = some b → w.heap.size ≤ b.block) → Q s' w') : F_slices_Clone_sint_int s w Q := by
  unfold F_slices_Clone_sint_int
  refine cond_i (fun h => ?_) (fun h => ?_)
  · have hn : xs = [] := by
      cases xs with
      | nil => rfl
      | cons x r => obtain ⟨a, ha, _⟩ := hs.get 0 x rfl; rw [ha] at h; cases h
    subst hn
    exact hQ _ w (Vec.nil _ _ _ _) (Mod.refl _ _) (fun b hb => by cases hb)
  · refine alloc_i fun w1 o1 k1 z1 => ?_
    have v0 : Vec w1 tInt 1 eI ⟨some ⟨w.heap.size, 0, none⟩, 0, 0⟩ [] := Vec.new lenI [] o1 (by simp)
    refine append_i elem_sInt lenI oneI v0 (hs.mod k1 eI_ne (fun _ _ => id)) (by simp; omega) (by simp; omega) fun r w' hr hm hrb _ => ?_
    refine hQ r w' (by simpa using hr) (Mod.fresh k1 hm fun k ⟨a, ha, hk⟩ => by cases ha; rw [hk]; exact Nat.le_refl _) fun b hb => ?_
    rcases hrb with h1 | ⟨b', hb', hlt⟩
    · rw [hb] at h1; cases h1; exact Nat.le_refl _
    · rw [hb] at hb'; cases hb'; have := k1.size; omega

theorem Unp_none {f t : Int} {w : World} {Q : Sl → Int → World → Prop} (hQ : Q ⟨none, 0, 0⟩ 4 w) : F_unpack_Arc none f t w Q := by
  unfold F_unpack_Arc
  exact cond_i (fun _ => hQ) (fun h => by simp at h)

theorem pend_len {A : List Arc} {r : List (Int × Int)} {l : List Int} {k : Nat} (h : PendW A r l k) : r.length ≤ k := by
  induction h with
  | nil => exact Nat.le_refl _
  | cons hx _ ih => have := way_len hx; simp only [List.length_cons]; omega
theorem way_tail {A : List Arc} {f t : Int} {x : List Int} (h : WayIs A f t x) : f :: x.tail = x := by
  obtain ⟨m, rfl⟩ := way_shape h; rfl

section
variable {w : World} {H : LevS} {n : Nat} {A L : List Arc} {R : List Int}
theorem Unp_i {f t : Int} {Q : Sl → Int → World → Prop} (h : LevIs w H n A R) (U : UnpOk n L A R) (hn : n ≤ 30)
    (hyes : ∀ l s w', WayIs A f t l → Vec w' tInt 1 eI s l → Keep w w' → (∀ b, s.b = some b → w.heap.size ≤ b.block) → Q s 0 w') (hno : wayO A f t = none → ∀ w', Keep w w' → Q ⟨none, 0, 0⟩ 4 w') : F_unpack_Arc (some ⟨H.gl, 0, none⟩) f t w Q := by
  unfold F_unpack_Arc
  refine cond_i (fun h => by simp at h) (fun _ => ?_)
  refine alloc_i fun w1 o1 k1 z1 => alloc_i fun w2 o2 k2 z2 => ?_
  have K2 := k1.tr k2
  have v1 : Vec w2 tInt 1 eI ⟨some ⟨w.heap.size, 0, none⟩, 1, 1⟩ [f] := (Vec.new lenI [f] o1 (by simp [maxLen])).mod k2 fun _ _ => id
  have v2 : Vec w2 tArr2 2 eP ⟨some ⟨w1.heap.size, 0, none⟩, 1, 1⟩ [(f, t)] := Vec.new lenP [(f, t)] o2 (by simp [maxLen])
  refine onSome_i rfl (ld1_i (k := .ptr) (some ⟨H.N.g, 0, none⟩) (h.keep K2).c0 ?_)
  refine Len_i (h.keep K2).net ?_
  rw [w64 (n := (2 : Int) * (n : Int)) (by omega) (by omega)]
  refine loop_i (fun c s4 w4 => ∃ (so sr : Sl) (out : List Int) (stk : List (Int × Int)) (left : Int), s4 = (so, sr, left, ()) ∧ Vec w4 tInt 1 eI so out ∧ Vec w4 tArr2 2 eP sr stk ∧ Keep w w4 ∧ (∀ b, so.b = some b → w.heap.size ≤ b.block) ∧ (∀ b, sr.b = some b → w.heap.size ≤ b.block) ∧
      (∀ a b, so.b = some a → sr.b = some b → a.block ≠ b.block) ∧ left ≤ 1000 ∧ -1000 + c ≤ left ∧ out.length ≤ 1000 ∧
      ((wayO A f t = none ∧ stk = [(f, t)]) ∨ ∃ l k tot, WayIs A f t tot ∧ PendW A stk.reverse l k ∧ c = k ∧ (k : Int) ≤ left + 1 ∧ out ++ l = tot ∧ stk.length ≤ k)) (match wayO A f t with | none => 1 | some l => 2 * l.length - 3)
    ⟨_, _, [f], [(f, t)], 2 * (n : Int), rfl, v1, v2, K2, fun b hb => by cases hb; exact Nat.le_refl _, fun b hb => by cases hb; exact k1.size, fun a b ha hb => by cases ha; cases hb; show w.heap.size ≠ w1.heap.size; omega, by omega, ?_, by simp, ?_⟩ ?_
  · cases hw : wayO A f t with
    | none => simp only; omega
    | some l => have := way_short U ((wayO_some U).1 hw); simp only; omega
  · cases hw : wayO A f t with
    | none => exact .inl ⟨rfl, rfl⟩
    | some l =>
      have hW := (wayO_some U).1 hw
      have h1 := way_short U hW
      have h2 := way_len hW
      have hp := PendW.cons hW (.nil (A := A))
      rw [List.append_nil, Nat.add_zero] at hp
      exact .inr ⟨_, _, l, hW, hp, rfl, by omega, way_tail hW, by show 1 ≤ _; omega⟩
  rintro c s4 w4 ⟨so, sr, out, stk, left, rfl, vo, vr, K4, fo, fr, sep, left1, left2, outl, hst⟩ X hX
  dsimp only
  have lr := vr.len
  refine cond_d (fun hpos => ?_) (fun hzero => ?_)
  · rcases List.eq_nil_or_concat stk with rfl | ⟨ys, pq, hcat⟩
    · simp at lr; omega
    rw [List.concat_eq_append] at hcat
    subst hcat
    obtain ⟨p, q⟩ := pq
    have lr' : sr.l = ys.length + 1 := by simpa using lr
    have small : ys.length ≤ 2000 := by
      rcases hst with ⟨_, h2⟩ | ⟨l, k, tot, _, _, _, _, _, h6⟩
      · have := congrArg List.length h2
        rw [List.length_append] at this
        simp only [List.length_cons, List.length_nil] at this
        omega
      · simp at h6; omega
    have wl : IntKind.wrap .i64 (((sr.l : Nat) : Int) - (1 : Int)) = ((ys.length : Nat) : Int) := by rw [lr', w64 (by omega) (by omega)]; omega
    rw [wl, Int.toNat_natCast]
    have hget : (ys ++ [(p, q)])[ys.length]? = some (p, q) := by simp
    obtain ⟨pa, hpa, hh⟩ := (vr.rd lenP).get ys.length (p, q) hget
    have hcap := vr.cap
    refine ⟨⟨by omega, by omega⟩, onSome_i hpa (ldN_i (l := [.int .i64, .int .i64]) (p, q, ()) hh ?_)⟩
    refine alloc_i fun w5 o5 k5 z5 => ?_
    refine pair_store (p := (p, q)) o5 rfl fun w6 o6 m6 => ⟨⟨by omega, by omega⟩, ?_⟩
    have k6 : Keep w4 w6 := k5.fresh m6 fun k e => by rw [show k = w4.heap.size from e]; exact Nat.le_refl _
    have d6 : Keep w6 w6.drew := Mod.drew (Mod.refl _ w6)
    have k6' := k6.tr d6
    have c8 : ∀ {wx : World}, Keep w6 wx → wx.cell? ((⟨w4.heap.size, 0, none⟩ : Addr).add 0) = some (.int .i64 p) ∧ wx.cell? ((⟨w4.heap.size, 0, none⟩ : Addr).add 1) = some (.int .i64 q) := fun {wx} kx => by
      have ox := o6.mod kx id
      refine ⟨?_, ?_⟩ <;> rw [addr_lit, ox.cell] <;> rfl
    intro J hJ
    have nof : ∀ w7 o, findL A p q = none → Keep w4 w7 → J (o, false, ()) w7 := fun w7 o hnone k7 => by
      apply hJ
      dsimp only
      refine cond_i (fun _ => ?_) (fun h => by simp at h)
      rcases hst with ⟨h1, _⟩ | ⟨l, k, tot, _, hp, _⟩
      · exact hno h1 w7 (K4.tr k7)
      · rw [List.reverse_append] at hp
        cases hp with
        | cons hx _ =>
          obtain ⟨e, he, e1, e2⟩ := way_find hx
          exact absurd ⟨e1, e2⟩ (findL_none hnone e he)
    have found : ∀ e w7 ba, findL A p q = some e → Own w7 ba tArc (eArc e) → Keep w4 w7 → J (some ⟨ba, 0, none⟩, true, ()) w7 := fun e w7 ba hf oa k7 => by
      obtain ⟨heA, hef, het⟩ := findL_some hf
      apply hJ
      dsimp only
      refine cond_i (fun h => by simp at h) (fun _ => ?_)
      rcases hst with ⟨h1, h2⟩ | ⟨l, k, tot, hW, hp, rfl, hk, hout, hkl⟩
      · have h3 : ys = [] ∧ p = f ∧ q = t := by
          cases ys with
          | nil => simpa using h2
          | cons y r => have := congrArg List.length h2; simp at this
        obtain ⟨lw, hlw⟩ := way_of U heA
        rw [hef, het, h3.2.1, h3.2.2] at hlw
        rw [(wayO_some U).2 hlw] at h1; cases h1
      rw [List.reverse_append] at hp
      simp only [List.reverse_cons, List.reverse_nil, List.nil_append, List.singleton_append] at hp
      cases hp with
      | @cons _ _ x l' k' _ hx hr =>
      have hxl := way_len hx
      have htl := way_short U hW
      refine cond_d (fun hneg => by omega) (fun _ => ?_)
      obtain ⟨ca0, ca1, _, ca3⟩ := own_arc oa
      have K7 := K4.tr k7
      have vo7 := vo.mod k7 fun _ _ => id
      have vr7 := vr.mod k7 fun _ _ => id
      have vt7 : Vec w7 tArr2 2 eP ⟨sr.b, ys.length, sr.c⟩ ys := by
        have := vr7.take (i := ys.length) (by omega)
        rwa [List.take_left] at this
      rw [sliceAddr_zero, Nat.sub_zero, Nat.sub_zero]
      have wl1 : IntKind.wrap .i64 (left - (1 : Int)) = left - 1 := w64 (by omega) (by omega)
      rw [wl1]
      refine onSome_i rfl (ld1_i (k := .int .i64) e.m ca3 ?_)
      have ltr : ∀ b, sr.b = some b → b.block < w7.heap.size := fun b hb => vr7.lt hb
      have lto : ∀ b, so.b = some b → b.block < w7.heap.size := fun b hb => vo7.lt hb
      have z7 : w.heap.size ≤ w7.heap.size := K7.size
      refine cond_d (fun hm => ?_) (fun hm => ?_)
      · -- one of the net's own
        have hox : x = [p, q] := by
          have := WayIs.own heA hm
          rw [hef, het] at this
          exact way_uniq U hx this
        refine onSome_i rfl (ld1_i (k := .int .i64) e.t ca1 ?_)
        refine alloc_i fun w8 o8 k8 z8 => ?_
        have v8 : Vec w8 tInt 1 eI ⟨some ⟨w7.heap.size, 0, none⟩, 1, 1⟩ [e.t] := Vec.new lenI [e.t] o8 (by simp [maxLen])
        refine append_i elem_sInt lenI oneI (vo7.mod k8 fun _ _ => id) (v8.rd lenI) (by simp; omega) (by simp; omega) fun r w9 vr9 m9 fr9 _ => ?_
        have m9' : Mod (fun k => ∃ a, so.b = some a ∧ k = a.block) w7 w9 := k8.wk.tr (m9.mono fun k _ hk => hk)
        have hle : out.length + 1 ≤ 1000 := by
          have := congrArg List.length hout
          simp at this
          subst hox
          simp at this
          omega
        refine hX (k' + (2 * x.length - 3) - 1) _ _ (by omega) ⟨r, ⟨sr.b, ys.length, sr.c⟩, out ++ [e.t], ys, left - 1, rfl, vr9, vt7.mod m9' (fun a ha ⟨b, hb, e9⟩ => sep b a hb ha e9.symm), K7.fresh m9' (fun k ⟨a, ha, e9⟩ => by rw [e9]; exact fo a ha), fun b hb => ?_, fr, fun a b ha hb => ?_, by omega, by omega, by simpa using hle, .inr ⟨l', k', tot, hW, hr, by subst hox; simp, by omega, ?_, by have := pend_len hr; rwa [List.length_reverse] at this⟩⟩
        · rcases fr9 with h9 | ⟨a, ha, hlt⟩
          · exact fo b (by rw [← h9]; exact hb)
          · rw [ha] at hb; cases hb; omega
        · rcases fr9 with h9 | ⟨a', ha', hlt⟩
          · exact sep a b (by rw [← h9]; exact ha) hb
          · rw [ha'] at ha; cases ha
            have := ltr b hb; omega
        · rw [← hout, hox, het]; simp
      · -- a shortcut
        obtain ⟨x1, hx1⟩ : ∃ x1, WayIs A e.f e.m x1 := by
          obtain ⟨_, ⟨a, ha, _, _, a1, a2, _⟩, _⟩ := U.half e heA (by omega)
          obtain ⟨x1, h1⟩ := way_of U ha
          rw [a1, a2] at h1; exact ⟨x1, h1⟩
        obtain ⟨x2, hx2⟩ : ∃ x2, WayIs A e.m e.t x2 := by
          obtain ⟨_, ⟨_, _, b, hb, _, _, b1, b2, _⟩, _⟩ := U.half e heA (by omega)
          obtain ⟨x2, h2⟩ := way_of U hb
          rw [b1, b2] at h2; exact ⟨x2, h2⟩
        have hxe : x = x1 ++ x2.tail := by
          have := WayIs.cut heA (by omega) hx1 hx2
          rw [hef, het] at this
          exact way_uniq U hx this
        have l1 := way_len hx1
        have l2 := way_len hx2
        have hlx : x.length = x1.length + x2.length - 1 := by rw [hxe]; simp; omega
        refine onSome_i rfl (ld1_i (k := .int .i64) e.m ca3 (onSome_i rfl (ld1_i (k := .int .i64) e.t ca1 (onSome_i rfl (ld1_i (k := .int .i64) e.f ca0 (onSome_i rfl (ld1_i (k := .int .i64) e.m ca3 ?_)))))))
        refine alloc_i fun w8 o8 k8 z8 => ?_
        have v8 : Vec w8 tArr2 2 eP ⟨some ⟨w7.heap.size, 0, none⟩, 2, 2⟩ [(e.m, e.t), (e.f, e.m)] := Vec.new lenP [(e.m, e.t), (e.f, e.m)] o8 (by simp [maxLen])
        refine append_i elem_sArr2 lenP oneP (vt7.mod k8 fun _ _ => id) (v8.rd lenP) (by simp; omega) (by simp; omega) fun r w9 vr9 m9 fr9 _ => ?_
        have m9' : Mod (fun k => ∃ a, sr.b = some a ∧ k = a.block) w7 w9 := k8.wk.tr (m9.mono fun k _ hk => hk)
        have hp2 : PendW A (ys ++ [(e.m, e.t), (e.f, e.m)]).reverse (x1.tail ++ (x2.tail ++ l')) (2 * x1.length - 3 + (2 * x2.length - 3 + k')) := by
          simp only [List.reverse_append, List.reverse_cons, List.reverse_nil, List.nil_append, List.singleton_append, List.cons_append]
          exact .cons hx1 (.cons hx2 hr)
        refine hX (2 * x1.length - 3 + (2 * x2.length - 3 + k')) _ _ (by omega) ⟨so, r, out, _, left - 1, rfl, vo7.mod m9' (fun a ha ⟨b, hb, e9⟩ => sep a b ha hb e9), vr9, K7.fresh m9' (fun k ⟨a, ha, e9⟩ => by rw [e9]; exact fr a ha), fo, fun b hb => ?_, fun a b ha hb => ?_, by omega, by omega, outl, .inr ⟨_, _, tot, hW, hp2, rfl, by omega, ?_, by have := pend_len hp2; rwa [List.length_reverse] at this⟩⟩
        · rcases fr9 with h9 | ⟨a, ha, hlt⟩
          · exact fr b (by rw [← h9]; exact hb)
          · rw [ha] at hb; cases hb; omega
        · rcases fr9 with h9 | ⟨a', ha', hlt⟩
          · exact sep a b ha (by have h9' : r.b = sr.b := h9; rw [← h9']; exact hb)
          · rw [ha'] at hb; cases hb
            have := lto a ha; omega
        · rw [← hout, hxe]
          obtain ⟨m, rfl⟩ := way_shape hx1
          simp
    refine onSome_i rfl (ld1_i (k := .ptr) (some ⟨H.N.g, 0, none⟩) ((h.keep K4).keep k6').c0 ⟨⟨by omega, by omega⟩, ?_⟩)
    refine ld1_i (k := .int .i64) p (c8 d6).1 ⟨⟨by omega, by omega⟩, ld1_i (k := .int .i64) q (c8 d6).2 ?_⟩
    refine ⟨?_, ?_⟩
    · refine Arc_i ((h.keep K4).keep k6').net (fun e w12 hf k12 => ?_) (fun w12 hf k12 => ?_)
      · refine arc_copy (x := e) fun w14 k14 o14 _ => ?_
        exact found e w14 _ hf o14 ((k6'.tr k12).tr k14)
      · refine arc_copy (x := ⟨0, 0, 0, 0⟩) fun w14 k14 o14 _ => ?_
        exact nof w14 _ hf ((k6'.tr k12).tr k14)
    · refine alloc_i fun w15 o15 k15 z15 => ?_
      have cc := c8 (d6.tr k15)
      refine ⟨cc.2, cc.1, ((h.keep K4).keep (k6'.tr k15)).c0, ?_⟩
      have k615 := k6'.tr k15
      have fz : w4.heap.size ≤ w6.drew.heap.size := k6'.size
      refine Arc_i ((h.keep K4).keep k615).net (fun e w16 hf k16 => ?_) (fun w16 hf k16 => ?_)
      · refine zero_store (o15.mod k16 id) rfl fun w17 o17 m17 => ?_
        exact found e w17 _ hf o17 ((k615.tr k16).fresh m17 fun k e => by rw [show k = _ from e]; exact fz)
      · refine zero_store (x := ⟨0, 0, 0, 0⟩) (o15.mod k16 id) rfl fun w17 o17 m17 => ?_
        exact nof w17 _ hf ((k615.tr k16).fresh m17 fun k e => by rw [show k = _ from e]; exact fz)
  · have hs0 : stk = [] := List.eq_nil_of_length_eq_zero (by omega)
    subst hs0
    rcases hst with ⟨_, h2⟩ | ⟨l, k, tot, hW, hp, _, _, hout, _⟩
    · cases h2
    · cases hp
      rw [List.append_nil] at hout
      subst hout
      exact hyes _ so w4 hW vo K4 fo

/-- The tail of a slice, put behind another. -/
theorem tail_rd {s : Sl} {l : List Int} {w : World} (h : Vec w tInt 1 eI s l) (h1 : 1 ≤ l.length) : Rd w ⟨sliceAddr s.b s.c (Int.toNat (1 : Int)) 1, s.l - Int.toNat (1 : Int), s.c - Int.toNat (1 : Int)⟩ 1 eI l.tail := by
  have hl := h.len
  have hc := h.cap
  have := (h.rd lenI).part (i := 1) (j := s.l) (c := s.c) (by omega) (Nat.le_refl _) hc (Nat.le_refl _)
  have e : (l.drop 1).take (s.l - 1) = l.tail := by
    rw [List.drop_one, List.take_of_length_le (by simp; omega)]
  rwa [e] at this

theorem Row_i {stops : Sl} {xs : List Int} {Q : Sl → Int → World → Prop} (h : LevIs w H n A R) (U : UnpOk n L A R) (hn : n ≤ 30) (hs : Rd w stops 1 eI xs) (hl : xs.length ≤ 1000)
    (hyes : ∀ l s w', rowO A xs = some l → Vec w' tInt 1 eI s l → Keep w w' → (∀ b, s.b = some b → w.heap.size ≤ b.block) → Q s 0 w') (hno : rowO A xs = none → ∀ w', Keep w w' → Q ⟨none, 0, 0⟩ 4 w') : F_unpack_Row (some ⟨H.gl, 0, none⟩) stops w Q := by
  unfold F_unpack_Row
  have sl := hs.len
  have sc := hs.cap
  have hmin : minInt (1 : Int) ((stops.l : Nat) : Int) = ((min 1 stops.l : Nat) : Int) := by unfold minInt; split <;> omega
  rw [hmin, Int.toNat_natCast]
  refine ⟨⟨by omega, by omega⟩, ?_⟩
  have hp := hs.part (i := 0) (j := min 1 stops.l) (c := stops.c) (by omega) (by omega) (by omega) (Nat.le_refl _)
  rw [List.drop_zero, Nat.sub_zero] at hp
  refine CloneI_i hp (by simp; omega) fun s1 w1 v1 k1 f1 => ?_
  have vl1 := v1.len
  refine loop_i (fun c s2 w2 => ∃ (so : Sl) (k : Nat) (out : List Int), s2 = (so, ((k : Int) + 1), ()) ∧ Vec w2 tInt 1 eI so out ∧ Keep w w2 ∧ (∀ b, so.b = some b → w.heap.size ≤ b.block) ∧ c = xs.length - k ∧ out.length ≤ 1 + 30 * k ∧
      ((xs = [] ∧ out = [] ∧ k = 0) ∨ ∃ cur, xs[k]? = some cur ∧ rowO A xs = (rowT A cur (xs.drop (k + 1))).map fun z => out ++ z)) xs.length
    ⟨s1, 0, _, rfl, v1, k1, f1, rfl, by simp; omega, ?_⟩ ?_
  · cases xs with
    | nil => exact .inl ⟨rfl, by simp, rfl⟩
    | cons a r =>
      refine .inr ⟨a, rfl, ?_⟩
      have : min 1 stops.l = 1 := by rw [sl]; simp
      rw [this]; rfl
  rintro c s2 w2 ⟨so, k, out, rfl, vo, K2, fo, rfl, ol, hst⟩ X hX
  dsimp only
  refine cond_d (fun hlt => ?_) (fun hge => ?_)
  · have hk : k + 1 < xs.length := by omega
    rcases hst with ⟨h1, _, _⟩ | ⟨cur, hcur, hrow⟩
    · subst h1; simp at hk
    have hnext := List.getElem?_eq_getElem hk
    generalize xs[k + 1] = nx at hnext
    have d2 : Keep w2 w2.drew := Mod.drew (Mod.refl _ w2)
    have K2d := K2.tr d2
    obtain ⟨pa, hpa, hca⟩ := rd_cell (k := .int .i64) (e := fun x => x) (hs.mod K2d eI_ne fun _ _ => id) hcur
    obtain ⟨pb, hpb, hcb⟩ := rd_cell (k := .int .i64) (e := fun x => x) (hs.mod K2d eI_ne fun _ _ => id) hnext
    rw [w64 (n := (k : Int) + 1 - 1) (by omega) (by omega), show (k : Int) + 1 - 1 = (k : Int) by omega, Int.toNat_natCast, show ((k : Int) + 1).toNat = k + 1 by omega]
    refine ⟨⟨by omega, by omega⟩, onSome_i hpa (ld1_i (k := .int .i64) cur hca ⟨⟨by omega, by omega⟩, onSome_i hpb (ld1_i (k := .int .i64) nx hcb ?_)⟩)⟩
    have hdrop : xs.drop (k + 1) = nx :: xs.drop (k + 2) := by
      obtain ⟨hk', e⟩ := List.getElem?_eq_some_iff.1 hnext
      rw [List.drop_eq_getElem_cons hk', e]
    rw [hdrop] at hrow
    refine Unp_i (h.keep K2d) U hn (fun l s w3 hW v3 k3 f3 => ?_) (fun hnone w3 k3 => ?_)
    · refine cond_i (fun h => by simp at h) (fun _ => ?_)
      have ll := way_len hW
      have ls := way_short U hW
      have vl := v3.len
      refine ⟨⟨by omega, by omega⟩, ?_⟩
      have vo3 := (vo.mod d2 fun _ _ => id).mod k3 fun _ _ => id
      refine append_i elem_sInt lenI oneI vo3 (tail_rd v3 (by omega)) (by simp; omega) (by simp; omega) fun r w4 v4 m4 f4 _ => ?_
      have z23 := k3.size
      have zw := K2d.size
      rw [w64 (n := (k : Int) + 1 + 1) (by omega) (by omega), show (k : Int) + 1 + 1 = ((k + 1 : Nat) : Int) + 1 by omega]
      refine hX (xs.length - (k + 1)) _ _ (by omega) ⟨r, k + 1, _, rfl, v4, (K2d.tr k3).fresh m4 (fun k ⟨a, ha, e⟩ => by rw [e]; exact fo a ha), fun b hb => ?_, rfl, by simp; omega, .inr ⟨nx, hnext, ?_⟩⟩
      · rcases f4 with h4 | ⟨a, ha, hlt4⟩
        · exact fo b (by rw [← h4]; exact hb)
        · rw [ha] at hb; cases hb; omega
      · rw [hrow]
        show Option.map _ (match wayO A cur nx with | none => none | some l => (rowT A nx (xs.drop (k + 2))).map fun z => l.tail ++ z) = _
        rw [(wayO_some U).2 hW]
        simp only [Option.map_map]
        congr 1
        funext z
        simp
    · refine cond_i (fun _ => ?_) (fun h => by simp at h)
      refine hno ?_ w3 (K2d.tr k3)
      rw [hrow]
      show Option.map _ (match wayO A cur nx with | none => none | some l => (rowT A nx (xs.drop (k + 2))).map fun z => l.tail ++ z) = _
      rw [hnone]; rfl
  · rcases hst with ⟨h1, h2, _⟩ | ⟨cur, hcur, hrow⟩
    · subst h1; subst h2
      exact hyes [] so w2 rfl vo K2 fo
    · have hk := (List.getElem?_eq_some_iff.1 hcur).1
      have hd : xs.drop (k + 1) = [] := List.drop_eq_nil_of_le (by omega)
      rw [hd] at hrow
      refine hyes out so w2 ?_ vo K2 fo
      rw [hrow]
      show some (out ++ []) = _
      rw [List.append_nil]
end
end Go.Proofs.Ytkghlmaalkmdkaa

/-
  The program's search: grow, up, down.
-/
namespace Go.Proofs.Ytkghlmaalkmdkaa
open Go Go.Den

theorem Mul_i {n : Nat} (hn : n ≤ 30) {w : World} {Q : Int → Int → World → Prop} (hQ : Q 0 (n : Int) w) : F_math_bits_Mul (IntKind.wrap .u64 (((1 : Nat) : Int))) (IntKind.wrap .u64 (n : Int)) w Q := by
  unfold F_math_bits_Mul
  have key : ∀ k : Fin 31, F_math_bits_Mul64 (IntKind.wrap .u64 (((1 : Nat) : Int))) (IntKind.wrap .u64 ((k.val : Nat) : Int)) w (fun a b w' => a = 0 ∧ b = ((k.val : Nat) : Int) ∧ w' = w) := by
    intro k
    unfold F_math_bits_Mul64
    refine ⟨by decide, by decide, by decide, by decide, by decide, ?_, ?_, rfl⟩ <;> revert k <;> decide +kernel
  have h := key ⟨n, by omega⟩
  unfold F_math_bits_Mul64 at h ⊢
  obtain ⟨_, _, _, _, _, h1, h2, _⟩ := h
  refine ⟨by decide, by decide, by decide, by decide, by decide, ?_⟩
  simp only at h1 h2
  rw [h1, h2]; exact hQ

theorem rep_flat (x : Int) : ∀ n : Nat, (List.replicate n x).flatMap eI = List.replicate n (.int .i64 x)
  | 0 => rfl
  | n + 1 => by rw [List.replicate_succ, List.replicate_succ, List.flatMap_cons, rep_flat x n]; rfl
theorem Repeat_i {w : World} {b n : Nat} {Q : Sl → World → Prop} (h : Own w b tInt [.int .i64 (-1)]) (hn : n ≤ 30) (hQ : ∀ w', Vec w' tInt 1 eI ⟨some ⟨w.heap.size, 0, none⟩, n, n⟩ (List.replicate n (-1)) → Keep w w' → Q ⟨some ⟨w.heap.size, 0, none⟩, n, n⟩ w') :
    F_slices_Repeat_sint_int ⟨some ⟨b, 0, none⟩, 1, 1⟩ (n : Int) w Q := by
  unfold F_slices_Repeat_sint_int
  refine cond_d (fun h => by omega) (fun _ => ?_)
  refine Mul_i hn ?_
  refine cond_d (fun h => by omega) (fun _ => cond_d (fun h => by omega) (fun _ => ?_))
  rw [w64 (n := (n : Int)) (by omega) (by omega)]
  refine make_i elem_sInt (enc := eI) (0 : Int) rfl lenI (by omega) (Int.le_refl _) (by omega) (by omega) fun w2 v2 k2 => ?_
  simp only [Int.toNat_natCast] at v2 ⊢
  have hb := h.lt
  have fin : ∀ w', Own w' w.heap.size tInt (List.replicate n (.int .i64 (-1))) → Keep w w' → Q ⟨some ⟨w.heap.size, 0, none⟩, n, n⟩ w' := fun w' o k => by
    refine hQ w' ⟨by simp, Nat.le_refl _, by simp [maxLen]; omega, .inr ⟨w.heap.size, [], rfl, ?_, by rw [List.append_nil, length_flatMap_enc lenI]; simp⟩⟩ k
    rw [List.append_nil, rep_flat]; exact o
  have o2 : Own w2 w.heap.size tInt (List.replicate n (.int .i64 0)) := by
    rcases v2.own with ⟨h1, _⟩ | ⟨g, rest, hg, ho, hl⟩
    · cases h1
    · cases hg
      rw [rep_flat] at ho hl
      rw [List.length_append, List.length_replicate] at hl
      have hl' : n + rest.length = n * 1 := hl
      have hr : rest = [] := List.eq_nil_of_length_eq_zero (by omega)
      rw [hr, List.append_nil] at ho; exact ho
  have hsrc : ∀ {wx : World}, Keep w wx → ∀ j v, ([.int .i64 (-1)] : List Value)[j]? = some v → wx.cell? ((⟨b, 0, none⟩ : Addr).add j) = some v := fun kx => (h.mod kx id).read fun j v hj => by simpa using hj
  -- what is there once k of them are
  have step : ∀ {w4 : World} {k m : Nat} {cs : List Value} {sa : Addr} {sl sc : Nat} {K : Int → World → Prop}, Own w4 w.heap.size tInt (List.replicate k (.int .i64 (-1)) ++ List.replicate (n - k) (.int .i64 0)) → Keep w w4 → k + m ≤ n → m = min sl (n - k) → cs = List.replicate m (.int .i64 (-1)) →
      (∀ j v, cs[j]? = some v → w4.cell? (sa.add j) = some v) → (∀ w5, Own w5 w.heap.size tInt (List.replicate (k + m) (.int .i64 (-1)) ++ List.replicate (n - (k + m)) (.int .i64 0)) → Keep w w5 → K (m : Int) w5) →
      copyD Try.prog tsInt tsInt ⟨some ⟨w.heap.size, k, none⟩, n - k, n - k⟩ (.slice (some sa) sl sc) w4 K := fun {w4 k m cs sa sl sc K} o k4 hkm hm hcs hr hK => by
    subst hcs
    refine copy_own (n := 1) elem_sInt.under size_Int o (by simp; omega) hr (by simp; omega) (fun v hv => by rw [(List.mem_replicate.1 hv).2]; rfl) fun w5 o5 m5 _ => ?_
    rw [← hm]
    refine hK w5 ?_ (k4.fresh m5 fun k e => by rw [show k = _ from e]; exact Nat.le_refl _)
    have e1 : (List.replicate k (Value.int .i64 (-1)) ++ List.replicate (n - k) (Value.int .i64 0)).take k = List.replicate k (.int .i64 (-1)) := by
      rw [List.take_append_of_le_length (by simp), List.take_of_length_le (by simp)]
    have e2 : (List.replicate k (Value.int .i64 (-1)) ++ List.replicate (n - k) (Value.int .i64 0)).drop (k + (List.replicate m (Value.int .i64 (-1))).length) = List.replicate (n - (k + m)) (.int .i64 0) := by
      rw [List.drop_append, List.drop_of_length_le (by simp), List.nil_append, List.drop_replicate]
      simp
      omega
    rw [e1, e2, List.replicate_append_replicate] at o5
    exact o5
  have first := fun (K : Int → World → Prop) => step (K := K) (w4 := w2) (k := 0) (m := min 1 n) (cs := List.replicate (min 1 n) (.int .i64 (-1))) (sa := ⟨b, 0, none⟩) (sl := 1) (sc := 1)
  simp only [List.replicate_zero, List.nil_append, Nat.sub_zero, Nat.zero_add] at first
  refine first _ o2 k2 (by omega) trivial trivial (fun j v hj => ?_) fun w3 o3 k3 => ?_
  · refine hsrc k2 j v ?_
    rw [List.getElem?_replicate] at hj
    split at hj
    · have : j = 0 := by omega
      subst this; simpa using hj
    · cases hj
  refine loop_i (fun c t w4 => ∃ k : Nat, k ≤ n ∧ min 1 n ≤ k ∧ c = n - k ∧ t = ((k : Int), ()) ∧ Own w4 w.heap.size tInt (List.replicate k (.int .i64 (-1)) ++ List.replicate (n - k) (.int .i64 0)) ∧ Keep w w4) (n - min 1 n) ⟨min 1 n, by omega, Nat.le_refl _, rfl, rfl, o3, k3⟩ ?_
  rintro c t w4 ⟨k, hk, hk1, rfl, rfl, o4, k4⟩ X hX
  dsimp only
  refine cond_d (fun hlt => ?_) (fun hge => ?_)
  · have hlt' : k < n := by omega
    refine ⟨⟨by omega, by omega⟩, ⟨by omega, by omega⟩, ?_⟩
    rw [Int.toNat_natCast, sliceAddr_own hlt', sliceAddr_zero, Nat.sub_zero, Nat.sub_zero, Nat.mul_one]
    have d4 : Keep w4 w4.drew := Mod.drew (Mod.refl _ w4)
    have o4d := o4.mod d4 id
    refine step (m := min k (n - k)) o4d (k4.tr d4) (by omega) rfl rfl (o4d.read fun j v hj => ?_) fun w5 o5 k5 => ?_
    · rw [List.getElem?_replicate] at hj
      split at hj
      · rw [Nat.zero_add, List.getElem?_append_left (by simp; omega), List.getElem?_replicate, if_pos (by omega)]; exact hj
      · cases hj
    · rw [w64 (n := (k : Int) + ((min k (n - k) : Nat) : Int)) (by omega) (by omega), show (k : Int) + ((min k (n - k) : Nat) : Int) = ((k + min k (n - k) : Nat) : Int) by omega]
      exact hX (n - (k + min k (n - k))) _ _ (by omega) ⟨k + min k (n - k), by omega, by omega, rfl, rfl, o5, k5⟩
  · have : k = n := by omega
    subst this
    rw [Nat.sub_self, List.replicate_zero, List.append_nil] at o4
    exact fin w4 o4 k4

/-! ### grow -/

structure GSep (W : World) (Z b1 b5 r g1 B : Nat) (s1 s2 : Sl) : Prop where
  s1b : s1.b = some ⟨g1, 0, none⟩
  low : W.heap.size ≤ b1 ∧ W.heap.size ≤ b5 ∧ W.heap.size ≤ r ∧ W.heap.size ≤ g1 ∧ ∀ b, s2.b = some b → W.heap.size ≤ b.block
  high : b1 < Z ∧ b5 < Z ∧ r < Z ∧ g1 < Z ∧ ∀ b, s2.b = some b → b.block < Z
  ne : b1 ≠ b5 ∧ b1 ≠ r ∧ b1 ≠ g1 ∧ b5 ≠ r ∧ b5 ≠ g1 ∧ r ≠ g1
  ne2 : ∀ b, s2.b = some b → b.block ≠ b1 ∧ b.block ≠ b5 ∧ b.block ≠ r ∧ b.block ≠ g1
def SepK (W : World) (b1 b5 r g1 : Nat) (s2 : Sl) (k : Nat) : Prop := W.heap.size ≤ k ∧ k ≠ b1 ∧ k ≠ b5 ∧ k ≠ r ∧ k ≠ g1 ∧ ∀ b, s2.b = some b → k ≠ b.block
theorem GSep.new {W : World} {Z b1 b5 r g1 B : Nat} {s1 s2 : Sl} (h : GSep W Z b1 b5 r g1 B s1 s2) {k : Nat} (hk : Z ≤ k) : SepK W b1 b5 r g1 s2 k := by
  obtain ⟨h1, h2, h3, h4, h5⟩ := h.high
  have := h.low.1
  exact ⟨by omega, by omega, by omega, by omega, by omega, fun b hb e => by have := h5 b hb; omega⟩
structure GSt (W : World) (Z b1 b5 r g1 B : Nat) (s1 s2 : Sl) (w : World) (H : HS) (q : List It) (ds bs : List Int) (kn : Int → Option Int) : Prop where
  hp : HeapAny w H q
  hg : H.g = B
  mp : ∃ nm, MapF w r ekI knI kn nm
  v1 : Vec w tInt 1 eI s1 ds
  v2 : Vec w tInt 1 eI s2 bs
  o1 : Own w b1 tTree [sv ⟨none, 0, 0⟩, sv ⟨none, 0, 0⟩]
  o5 : Own w b5 tTree [sv s1, sv s2]
  kp : Keep W w
  sz : Z ≤ w.heap.size
  sep : ∀ k, H.has k → SepK W b1 b5 r g1 s2 k
section
variable {W : World} {Z b1 b5 r g1 B : Nat} {s1 s2 : Sl} {w : World} {H : HS} {q : List It} {ds bs : List Int} {kn : Int → Option Int}
theorem GSt.keep {w' : World} (h : GSt W Z b1 b5 r g1 B s1 s2 w H q ds bs kn) (k : Keep w w') : GSt W Z b1 b5 r g1 B s1 s2 w' H q ds bs kn :=
  ⟨h.hp.keep k, h.hg, h.mp.imp fun _ m => m.mod k id, h.v1.mod k fun _ _ => id, h.v2.mod k fun _ _ => id, h.o1.mod k id, h.o5.mod k id, h.kp.tr k, Nat.le_trans h.sz k.size, h.sep⟩
/-- Only the heap has changed. -/
theorem GSt.heap {w' : World} {H' : HS} {q' : List It} (S : GSep W Z b1 b5 r g1 B s1 s2) (h : GSt W Z b1 b5 r g1 B s1 s2 w H q ds bs kn) (hp : HeapIs w' H' q') (hg : H'.g = H.g) (m : Mod H.has w w') (f : ∀ k, H'.has k → H.has k ∨ w.heap.size ≤ k) : GSt W Z b1 b5 r g1 B s1 s2 w' H' q' ds bs kn := by
  refine ⟨.inl hp, hg.trans h.hg, h.mp.imp fun _ mm => mm.mod m fun hk => (h.sep r hk).2.2.2.1 rfl, h.v1.mod m fun a ha hk => ?_, h.v2.mod m fun a ha hk => (h.sep _ hk).2.2.2.2.2 a ha rfl, h.o1.mod m fun hk => (h.sep _ hk).2.1 rfl, h.o5.mod m fun hk => (h.sep _ hk).2.2.1 rfl, h.kp.fresh m fun k hk => (h.sep k hk).1, Nat.le_trans h.sz m.size, fun k hk => ?_⟩
  · rw [S.s1b] at ha; cases ha; exact (h.sep _ hk).2.2.2.2.1 rfl
  · rcases f k hk with h1 | h1
    · exact h.sep k h1
    · exact S.new (Nat.le_trans h.sz h1)
/-- Only the map has changed. -/
theorem GSt.map {w' : World} {kn' : Int → Option Int} (S : GSep W Z b1 b5 r g1 B s1 s2) (h : GSt W Z b1 b5 r g1 B s1 s2 w H q ds bs kn) (m : Mod (fun k => k = r) w w') (mp : ∃ nm, MapF w' r ekI knI kn' nm) : GSt W Z b1 b5 r g1 B s1 s2 w' H q ds bs kn' := by
  have ne := S.ne
  refine ⟨h.hp.mod m fun k hk e => (h.sep k hk).2.2.2.1 e, h.hg, mp, h.v1.mod m fun a ha e => ?_, h.v2.mod m fun a ha e => (S.ne2 a ha).2.2.1 e, h.o1.mod m fun e => ?_, h.o5.mod m fun e => ?_, h.kp.fresh m fun k e => ?_, Nat.le_trans h.sz m.size, h.sep⟩
  · rw [S.s1b] at ha; cases ha; exact ne.2.2.2.2.2 (Eq.symm e)
  · exact ne.2.1 e
  · exact ne.2.2.2.1 e
  · rw [show k = r from e]; exact S.low.2.2.1
theorem GSt.cells (h : GSt W Z b1 b5 r g1 B s1 s2 w H q ds bs kn) : w.cell? ((⟨b5, 0, none⟩ : Addr).add 0) = some (sv s1) ∧ w.cell? ((⟨b5, 0, none⟩ : Addr).add 1) = some (sv s2) := by
  refine ⟨?_, ?_⟩ <;> rw [addr_lit, h.o5.cell] <;> rfl
end
theorem tree_store {w : World} {g : Nat} {cs : List Value} {a b : Sl} {K : World → Prop} (h : Own w g tTree cs) (hl : cs.length = 2) (hK : ∀ w', Own w' g tTree [sv a, sv b] → Mod (fun k => k = g) w w' → w'.heap.size = w.heap.size → K w') :
    storeD Try.prog tTree ⟨g, 0, none⟩ (Value.agg #[Value.slice a.b a.l a.c, Value.slice b.b b.l b.c]) w K := by
  refine storeD_i h size_Tree (by simp [Value.cells, hl]) (by simp [Value.cells, Value.oneCell']) fun w' ho hm hz => hK w' ?_ hm hz
  have : cs.take 0 ++ (Value.agg #[Value.slice a.b a.l a.c, Value.slice b.b b.l b.c]).cells.toList ++ cs.drop (0 + (Value.agg #[Value.slice a.b a.l a.c, Value.slice b.b b.l b.c]).cells.size) = [sv a, sv b] := by
    simp [Value.cells, List.drop_of_length_le (show cs.length ≤ 2 by omega)]
  rwa [this] at ho
theorem grow_i {HL : LevS} {n : Nat} {A : List Arc} {R : List Int} {from_ : Sl} {fs : List Int} {arcs end_ : Value} {nx : Int → List Arc} {en : Arc → Int} {W : World} {Q : (Sl × Sl × Unit) → World → Prop} (h : LevIs W HL n A R) (hn : n ≤ 30) (hf : Rd W from_ 1 eI fs) (hfl : fs.length ≤ 1000)
    (hN : NxOk n (inSrc n fs) nx en) (hnl : ∀ v, (nx v).length ≤ 100000)
    (harcs : ∀ v w (K : Value → World → Prop), LevIs w HL n A R → (∀ s w', Vec w' tArc 4 eArc s (nx v) → Keep w w' → (∀ b, s.b = some b → w.heap.size ≤ b.block) → K (.slice s.b s.l s.c) w') → callV Try.prog arcs [.int .i64 v] w K)
    (hend : ∀ e w (K : Value → World → Prop), (∀ w', Keep w w' → K (.int .i64 (en e)) w') → callV Try.prog end_ [arcV e] w K)
    (hQ : ∀ s1 s2 ds bs w', Grown n (inSrc n fs) nx en ds bs → Vec w' tInt 1 eI s1 ds → Vec w' tInt 1 eI s2 bs → Keep W w' → (∀ b, s1.b = some b → W.heap.size ≤ b.block) → (∀ b, s2.b = some b → W.heap.size ≤ b.block) → Q (s1, s2, ()) w') :
    F_search_grow (some ⟨HL.gl, 0, none⟩) from_ arcs end_ W Q := by
  unfold F_search_grow
  refine alloc_i fun w1 o1 k1 z1 => ?_
  refine cond_i (fun h => by simp at h) (fun _ => ?_)
  refine alloc_i fun w3 o3 k3 z3 => ?_
  have K3 := k1.tr k3
  refine onSome_i rfl (ld1_i (k := .ptr) (some ⟨HL.N.g, 0, none⟩) (h.keep K3).c0 (Len_i (h.keep K3).net ?_))
  refine Repeat_i o3 hn fun w5 v5 k5 => ?_
  refine CloneI_i (v5.rd lenI) (by simp; omega) fun s2 w6 v6 k6 f6 => ?_
  have z5 : w3.heap.size < w5.heap.size := v5.lt rfl
  have z6 := k6.size
  refine mapNew_i (ek := ekI) (kn := knI) fun hm k7 => ?_
  have z7 : (w6.alloc (.map #[] 0)).heap.size = w6.heap.size + 1 := by simp
  generalize w6.alloc (.map #[] 0) = w7 at *
  refine alloc_i fun w8 o8 k8 z8 => alloc_i fun w9 o9 k9 z9 => ?_
  refine tree_store (a := ⟨some ⟨w3.heap.size, 0, none⟩, n, n⟩) (b := s2) o9 rfl fun w10 o10 m10 z10 => ?_
  generalize hs1 : (⟨some ⟨w3.heap.size, 0, none⟩, n, n⟩ : Sl) = s1 at *
  have s1b : s1.b = some ⟨w3.heap.size, 0, none⟩ := by rw [← hs1]
  have f6' : ∀ b, s2.b = some b → w5.heap.size ≤ b.block ∧ b.block < w6.heap.size := fun b hb => ⟨f6 b hb, v6.lt hb⟩
  have S : GSep W w10.heap.size W.heap.size w8.heap.size w6.heap.size w3.heap.size w7.heap.size s1 s2 := by
    refine ⟨s1b, ⟨by omega, by omega, by omega, by omega, fun b hb => by have := f6' b hb; omega⟩, ⟨by omega, by omega, by omega, by omega, fun b hb => by have := f6' b hb; omega⟩, ⟨by omega, by omega, by omega, by omega, by omega, by omega⟩, fun b hb => by have := f6' b hb; omega⟩
  have k910 : Keep w8 w10 := k9.fresh m10 fun k e => by rw [show k = _ from e]; exact Nat.le_refl _
  have K10 : Keep w6 w10 := (k7.tr k8).tr k910
  have KW : Keep W w10 := ((K3.tr k5).tr k6).tr K10
  have St0 : GSt W w10.heap.size W.heap.size w8.heap.size w6.heap.size w3.heap.size w7.heap.size s1 s2 w10 ⟨w7.heap.size, w7.heap.size, ⟨none, 0, 0⟩⟩ [] (List.replicate n (-1)) (List.replicate n (-1)) (fun _ => none) := by
    refine ⟨.inr ⟨rfl, rfl, rfl, o8.mod k910 id⟩, rfl, ⟨0, hm.mod (k8.tr k910) id⟩, (v5.mod k6 fun _ _ => id).mod K10 (fun _ _ => id), v6.mod K10 fun _ _ => id, ((((o1.mod k3 id).mod k5 id).mod k6 id).mod K10 id), o10, KW, Nat.le_refl _, fun k hk => ?_⟩
    have : k = w7.heap.size := by
      rcases hk with hk | hk | ⟨a, ha, _⟩
      · exact hk
      · exact hk
      · cases ha
    subst this
    exact ⟨by omega, by omega, by omega, by omega, by omega, fun b hb => by have := f6' b hb; omega⟩
  clear o1 o3 v5 v6 f6 f6' hm o8 o9 o10 m10 k910 K10 k9 k8 k7 k6 k5 k3 K3 k1
  generalize w10.heap.size = Z at *
  obtain ⟨b1, hb1⟩ : ∃ b1, b1 = W.heap.size := ⟨_, rfl⟩
  rw [← hb1] at S St0 ⊢
  generalize w8.heap.size = b5 at *
  generalize w6.heap.size = r at *
  generalize w3.heap.size = g1 at *
  generalize w7.heap.size = B at *
  clear z1 z3 z5 z6 z7 z8 z9 z10 hs1
  -- those to begin with
  refine loop_i (fun c t w11 => ∃ (i : Nat) (H : HS) (q : List It) (kn : Int → Option Int), i ≤ fs.length ∧ c = fs.length - i ∧ t = ((i : Int), ()) ∧ GSt W Z b1 b5 r g1 B s1 s2 w11 H q (List.replicate n (-1)) (List.replicate n (-1)) kn ∧ One q ∧ QSrt q ∧
      (∀ y ∈ q, y.key = 0 ∧ inSrc n fs y.id ∧ kn y.id = some (-1)) ∧ (∀ j, j < i → ∀ v, fs[j]? = some v → 0 ≤ v → v < n → ∃ y ∈ q, y.id = v)) fs.length
    ⟨0, _, [], _, Nat.zero_le _, rfl, rfl, St0, (fun x hx => by cases hx), List.Pairwise.nil, (fun y hy => by cases hy), fun j hj => by omega⟩ ?_
  rintro c t w11 ⟨i, H, q, kn, hi, rfl, rfl, st, hone, hsrt, hq, hall⟩ X hX
  dsimp only
  have qlen : q.length ≤ n := one_len (qsrt_nodup hsrt) hone fun y hy => (hq y hy).2.1.2
  refine cond_d (fun hlt => ?_) (fun hge => ?_)
  · have hfr := hf.len
    have hi' : i < fs.length := by omega
    have hget := List.getElem?_eq_getElem hi'
    have hmem := List.getElem_mem hi'
    generalize fs[i] = v at *
    obtain ⟨p, hp, hc⟩ := rd_cell (k := .int .i64) (e := fun x => x) (hf.mod st.kp eI_ne fun _ _ => id) hget
    rw [Int.toNat_natCast]
    refine ⟨⟨by omega, hlt⟩, onSome_i hp (ld1_i (k := .int .i64) v hc ?_)⟩
    have skip : ¬ (0 ≤ v ∧ v < n) → X (IntKind.wrap .i64 ((i : Int) + 1), ()) w11 := fun hno => by
      rw [wi_ i (by omega)]
      refine hX _ _ _ (by omega) ⟨i + 1, H, q, kn, hi', rfl, rfl, st, hone, hsrt, hq, fun j hj u hu u0 u1 => ?_⟩
      rcases Nat.lt_or_ge j i with hji | hji
      · exact hall j hji u hu u0 u1
      · have : j = i := by omega
        subst this
        rw [hget] at hu; cases hu
        exact absurd ⟨u0, u1⟩ hno
    refine cond_d (fun h0 => ?_) (fun h0 => skip fun h => h0 h.1)
    have h0' : 0 ≤ v := h0
    have hL := h.keep st.kp
    refine onSome_i rfl (ld1_i (k := .ptr) (some ⟨HL.N.g, 0, none⟩) hL.c0 (Len_i hL.net ?_))
    refine cond_d (fun h1 => ?_) (fun h1 => skip fun h => h1 h.2)
    have hg := st.hg
    rw [← hg]
    refine Push_i st.hp (by omega) fun w13 H13 h13 g13 m13 f13 => ?_
    have st13 := st.heap S h13 g13 m13 f13
    obtain ⟨nm, hmp⟩ := st13.mp
    refine update_i (kn := knI) und_mIntInt keyInt hmp v (-1 : Int) fun w14 hm14 m14 _ => ?_
    have st14 := st13.map S m14 ⟨_, hm14⟩
    rw [wi_ i (by omega)]
    refine hX _ _ _ (by omega) ⟨i + 1, H13, _, _, hi', rfl, rfl, st14, push_one hone v 0, push_srt hsrt v 0, fun y hy => ?_, fun j hj u hu u0 u1 => ?_⟩
    · rcases push_mem hy with hyq | rfl
      · obtain ⟨a1, a2, a3⟩ := hq y hyq
        refine ⟨a1, a2, ?_⟩
        show (if y.id = v then some (-1 : Int) else kn y.id) = some (-1)
        split
        · rfl
        · exact a3
      · exact ⟨rfl, ⟨hmem, h0', h1⟩, if_pos rfl⟩
    · rcases Nat.lt_or_ge j i with hji | hji
      · obtain ⟨y, hy, e⟩ := hall j hji u hu u0 u1
        obtain ⟨y', hy', e', _⟩ := push_keep hone (v := v) (k := 0) hy
        exact ⟨y', hy', e'.trans e⟩
      · have : j = i := by omega
        subst this
        rw [hget] at hu; cases hu
        obtain ⟨y, hy, e, _⟩ := push_low (q := q) (v := v) (k := 0)
        exact ⟨y, hy, e⟩
  have hfr := hf.len
  have ei : i = fs.length := by omega
  subst ei
  have G0 : GInv n (inSrc n fs) nx en (fun _ _ => True) (List.replicate n (-1)) (List.replicate n (-1)) q kn := GInv.start hN hq fun v hv => by
    obtain ⟨j, hj⟩ := List.mem_iff_getElem?.1 hv.1
    exact hall j (List.getElem?_eq_some_iff.1 hj).1 v hj hv.2.1 hv.2.2
  clear hX hq hall qlen
  generalize hds0 : List.replicate n (-1 : Int) = ds0 at *
  have S' := S
  -- one after the other
  refine loop_i (fun c t w15 => ∃ (H : HS) (q : List It) (kn : Int → Option Int) (ds bs : List Int), c = n - met ds ∧ t = () ∧ GSt W Z b1 b5 r g1 B s1 s2 w15 H q ds bs kn ∧ One q ∧ QSrt q ∧ GInv n (inSrc n fs) nx en (fun _ _ => True) ds bs q kn) (n - met ds0)
    ⟨H, q, kn, ds0, ds0, rfl, rfl, st, hone, hsrt, G0⟩ ?_
  clear G0 hone hsrt st
  rintro c t w15 ⟨H, q, kn, ds, bs, rfl, rfl, st, hone, hsrt, G⟩ X hX
  have hg := st.hg
  rw [← hg]
  refine Len_h st.hp ?_
  cases q with
  | nil =>
    refine cond_d (fun h => by simp at h) (fun _ => ?_)
    refine ldN_i (l := [.slice, .slice]) (s1, s2, ()) (own_all st.o5) ?_
    refine tree_store (a := s1) (b := s2) st.o1 rfl fun w28 o28 m28 _ => ?_
    refine ldN_i (l := [.slice, .slice]) (s1, s2, ()) (own_all o28) ?_
    refine hQ s1 s2 ds bs w28 (G.done hN) (st.v1.mod m28 fun a ha e => ?_) (st.v2.mod m28 fun a ha e => (S.ne2 a ha).1 e) (st.kp.fresh m28 fun k e => by rw [show k = b1 from e]; exact S.low.1) (fun b hb => ?_) (fun b hb => S.low.2.2.2.2 b hb)
    · rw [S.s1b] at ha; cases ha; exact S.ne.2.2.1 (Eq.symm e)
    · rw [S.s1b] at hb; cases hb; exact S.low.2.2.2.1
  | cons x q =>
    refine cond_d (fun _ => ?_) (fun h => absurd (by simp only [List.length_cons]; omega) h)
    obtain ⟨x0, x1, hxd, hxg, hxb, u, hu, _⟩ := G.qi x (by simp)
    have hxk := (hxg.rng hN).2.2
    have hqlen : (x :: q).length ≤ n := one_len (qsrt_nodup hsrt) hone fun y hy => ⟨(G.qi y hy).1, (G.qi y hy).2.1⟩
    have hp : HeapIs w15 H (x :: q) := st.hp.resolve_right fun h => by cases h.1
    refine Pop_i hp (by simp at hqlen; omega) fun w17 H17 h17 g17 f17 m17 => ?_
    have d17 : Keep w17 w17.drew := Mod.drew (Mod.refl _ w17)
    have st17 := (st.heap S h17 g17 m17 fun k hk => .inl ((f17 k).1 hk)).keep d17
    obtain ⟨G1, hmet⟩ := G.pop hN hsrt hone hu
    have hml := met_le (ds.set x.id.toNat x.key)
    rw [List.length_set, G.dl] at hml
    refine ld1_i (k := .slice) s1 st17.cells.1 (ld1_i (k := .slice) s2 st17.cells.2 ?_)
    obtain ⟨nm, hmp⟩ := st17.mp
    refine lookup1_i (kn := knI) und_mIntInt keyInt (z := (0 : Int)) zero_int hmp x.id ?_
    rw [hu]
    show _ ∧ _
    have v1l := st17.v1.len
    have v2l := st17.v2.len
    have hdl := G.dl
    have hbl := G.bl
    refine ⟨st17.cells.2, st17.cells.1, ⟨x0, by omega⟩, onSome_i S.s1b ?_⟩
    refine st17.v1.store lenI S.s1b (i := x.id.toNat) (by omega) x.key (v := .int .i64 x.key) rfl size_Int (oneI _) fun w19 v19 m19 z19 => ?_
    have m19' : Mod (fun k => k = g1) w17.drew w19 := m19
    have st19 : GSt W Z b1 b5 r g1 B s1 s2 w19 H17 q (ds.set x.id.toNat x.key) bs kn := by
      refine ⟨st17.hp.mod m19' fun k hk e => (st17.sep k hk).2.2.2.2.1 e, st17.hg, st17.mp.imp fun _ mm => mm.mod m19' fun e => S.ne.2.2.2.2.2 e, v19, st17.v2.mod m19' fun a ha e => (S.ne2 a ha).2.2.2 e, st17.o1.mod m19' fun e => S.ne.2.2.1 e, st17.o5.mod m19' fun e => S.ne.2.2.2.2.1 e, st17.kp.fresh m19' fun k e => by rw [show k = g1 from e]; exact S.low.2.2.2.1, by rw [z19]; exact st17.sz, st17.sep⟩
    obtain ⟨g2, hg2⟩ : ∃ g2, s2.b = some ⟨g2, 0, none⟩ := by
      rcases st19.v2.own with ⟨_, h2⟩ | ⟨g, _, hb, _⟩
      · have := st19.v2.cap; omega
      · exact ⟨g, hb⟩
    refine ⟨st19.cells.2, ⟨x0, by omega⟩, onSome_i hg2 ?_⟩
    refine st19.v2.store lenI hg2 (i := x.id.toNat) (by omega) u (v := .int .i64 u) rfl size_Int (oneI _) fun w20 v20 m20 z20 => ?_
    have m20' : Mod (fun k => k = g2) w19 w20 := m20
    have n2 := S.ne2 _ hg2
    have st20 : GSt W Z b1 b5 r g1 B s1 s2 w20 H17 q (ds.set x.id.toNat x.key) (bs.set x.id.toNat u) kn := by
      refine ⟨st19.hp.mod m20' fun k hk e => (st19.sep k hk).2.2.2.2.2 _ hg2 e, st19.hg, st19.mp.imp fun _ mm => mm.mod m20' fun e => n2.2.2.1 e.symm, st19.v1.mod m20' fun a ha e => ?_, v20, st19.o1.mod m20' fun e => n2.1 e.symm, st19.o5.mod m20' fun e => n2.2.1 e.symm, st19.kp.fresh m20' fun k e => by rw [show k = g2 from e]; exact S.low.2.2.2.2 _ hg2, by rw [z20]; exact st19.sz, st19.sep⟩
      rw [S.s1b] at ha; cases ha; exact n2.2.2.2 (Eq.symm e)
    have hdlt : x.id.toNat < ds.length := by omega
    have hself : (ds.set x.id.toNat x.key)[x.id.toNat]? = some x.key := by rw [List.getElem?_set, if_pos rfl, if_pos hdlt]
    have exi : ((x.id.toNat : Nat) : Int) = x.id := Int.toNat_of_nonneg x0
    have hone' : One q := fun a ha b hb => hone a (by simp [ha]) b (by simp [hb])
    have hsrt' : QSrt q := (List.pairwise_cons.1 hsrt).2
    generalize hds' : ds.set x.id.toNat x.key = ds' at *
    generalize bs.set x.id.toNat u = bs' at *
    refine harcs x.id w20 _ (h.keep st20.kp) fun s5 w21 v21 k21 f21 => ⟨s5, rfl, ?_⟩
    have st21 := st20.keep k21
    have l5 := v21.len
    have hxl := hnl x.id
    have fr5 : ∀ b, s5.b = some b → w20.heap.size ≤ b.block ∧ b.block < w21.heap.size := fun b hb => ⟨f21 b hb, v21.lt hb⟩
    refine loop_i (fun c t w22 => ∃ (i : Nat) (H : HS) (q : List It) (kn : Int → Option Int), i ≤ (nx x.id).length ∧ c = (nx x.id).length - i ∧ t = ((i : Int), ()) ∧ GSt W Z b1 b5 r g1 B s1 s2 w22 H q ds' bs' kn ∧ One q ∧ QSrt q ∧
        GInv n (inSrc n fs) nx en (fun v e => v ≠ x.id ∨ e ∈ (nx x.id).take i) ds' bs' q kn ∧ Vec w22 tArc 4 eArc s5 (nx x.id) ∧ (∀ k, H.has k → ∀ b, s5.b = some b → k ≠ b.block) ∧ w21.heap.size ≤ w22.heap.size) (nx x.id).length
      ⟨0, H17, q, kn, Nat.zero_le _, rfl, rfl, st21, hone', hsrt', G1.mono (fun v e _ hh => hh.resolve_right (by simp)), v21, fun k hk b hb e => by have := (fr5 b hb).1; have := st20.hp.lt hk; omega, Nat.le_refl _⟩ ?_
    rintro c t w22 ⟨i, H2, q2, kn2, hi, rfl, rfl, st2, hone2, hsrt2, G2, v22, sp2, z22⟩ Y hY
    dsimp only
    have hq2len : q2.length ≤ n := one_len (qsrt_nodup hsrt2) hone2 fun y hy => ⟨(G2.qi y hy).1, (G2.qi y hy).2.1⟩
    refine cond_d (fun hlt => ?_) (fun hge => ?_)
    · have hi' : i < (nx x.id).length := by omega
      have hget := List.getElem?_eq_getElem hi'
      have hmem := List.getElem_mem hi'
      have htk : (nx x.id).take (i + 1) = (nx x.id).take i ++ [(nx x.id)[i]] := List.take_succ_eq_append_getElem hi'
      generalize (nx x.id)[i] = e at *
      obtain ⟨e0, e1, ew0, ew1⟩ := hN.arc x.id e hmem
      obtain ⟨p, hp, hh⟩ := rd_tup (v22.rd lenA) hget
      rw [Int.toNat_natCast]
      refine ⟨⟨by omega, hlt⟩, onSome_i hp (ldN_i (tupA e) hh ?_)⟩
      refine arc_copy (x := e) fun w24 k24 o24 _ => ?_
      refine ldN_i (tupA e) (own_all o24) ?_
      refine hend e w24 _ fun w25 k25 => ⟨en e, rfl, ?_⟩
      have k225 := k24.tr k25
      have st25 := st2.keep k225
      have o25 := o24.mod k25 id
      have v25 := v22.mod k225 fun _ _ => id
      have hdl' := G2.dl
      obtain ⟨y, hy⟩ : ∃ y, ds'[(en e).toNat]? = some y := ⟨_, List.getElem?_eq_getElem (show (en e).toNat < ds'.length by omega)⟩
      obtain ⟨pa, hpa, hca⟩ := rd_cell (k := .int .i64) (e := fun x => x) (st25.v1.rd lenI) hy
      have v1l' := st25.v1.len
      have tko : ∀ v' e', e' ∈ nx v' → (v' ≠ x.id ∨ e' ∈ (nx x.id).take (i + 1)) → ((v' ≠ x.id ∨ e' ∈ (nx x.id).take i) ∨ (v' = x.id ∧ e' = e)) := fun v' e' _ hh => by
        rcases hh with h1 | h1
        · exact .inl (.inl h1)
        · rw [htk] at h1
          rcases List.mem_append.1 h1 with h2 | h2
          · exact .inl (.inr h2)
          · by_cases hv : v' = x.id
            · exact .inr ⟨hv, by simpa using h2⟩
            · exact .inl (.inl hv)
      have z25 := k225.size
      refine ld1_i (k := .slice) s1 st25.cells.1 ⟨⟨e0, by omega⟩, onSome_i hpa (ld1_i (k := .int .i64) y hca ?_)⟩
      refine cond_d (fun hneg => ?_) (fun hpos => ?_)
      · have hy1 : y = -1 := by
          rcases G2.setl _ _ hy with h1 | ⟨h1, _⟩
          · exact h1
          · have hneg' : y < 0 := hneg
            omega
        subst hy1
        have hkey : x.key + BW ≤ met ds' * BW := by
          rcases G2.setl _ _ hself with h1 | ⟨_, _, _, h1, _⟩
          · omega
          · exact h1
        have hwr : IntKind.wrap .i64 (x.key + e.w) = x.key + e.w := w64 (by simp only [BW] at *; omega) (by simp only [BW] at *; omega)
        refine ld1_i (k := .int .i64) e.w (own_arc o25).2.2.1 ?_
        rw [hwr]
        have hg2' := st25.hg
        rw [hg, ← hg2']
        refine Push_i st25.hp (by omega) fun w26 H26 h26 g26 m26 f26 => ?_
        have st26 := st25.heap S h26 g26 m26 f26
        have G3 := (G2.push hN hone2 (v := x.id.toNat) (d := x.key) (e := e) hself hxk (by rw [exi]; exact hmem) hy)
        rw [exi] at G3
        have G4 := G3.mono (ok' := fun v e => v ≠ x.id ∨ e ∈ (nx x.id).take (i + 1)) tko
        have sp26 : ∀ k, H26.has k → ∀ b, s5.b = some b → k ≠ b.block := fun k hk b hb e => by
          rcases f26 k hk with h1 | h1
          · exact sp2 k h1 b hb e
          · have := (fr5 b hb).2; omega
        have v26 := v25.mod m26 fun b hb hk => sp2 _ hk b hb rfl
        have z26 := m26.size
        rw [wi_ i (by omega)]
        have hflag : ∀ b, (pushQ q2 (en e) (x.key + e.w)).2 = b → GInv n (inSrc n fs) nx en (fun v e => v ≠ x.id ∨ e ∈ (nx x.id).take (i + 1)) ds' bs' (pushQ q2 (en e) (x.key + e.w)).1 (knP kn2 b (en e) x.id) := fun b hb => by rw [← hb]; exact G4
        refine cond_i (fun hb => ?_) (fun hb => ?_)
        · obtain ⟨nm2, hmp2⟩ := st26.mp
          refine update_i (kn := knI) und_mIntInt keyInt hmp2 (en e) x.id fun w27 hm27 m27 z27 => ?_
          have st27 := st26.map S m27 ⟨_, hm27⟩
          refine hY _ _ _ (by omega) ⟨i + 1, H26, _, _, hi', rfl, rfl, st27, push_one hone2 _ _, push_srt hsrt2 _ _, hflag true hb, v26.mod m27 fun b hb' e => ?_, sp26, by omega⟩
          have e' : b.block = r := e
          have := (fr5 b hb').1
          have h1 := S.high.2.2.1
          have h2 := st20.sz
          omega
        · exact hY _ _ _ (by omega) ⟨i + 1, H26, _, kn2, hi', rfl, rfl, st26, push_one hone2 _ _, push_srt hsrt2 _ _, hflag false hb, v26, sp26, by omega⟩
      · have hpos' : 0 ≤ y := by have : ¬ y < 0 := hpos; omega
        rw [wi_ i (by omega)]
        exact hY _ _ _ (by omega) ⟨i + 1, H2, q2, kn2, hi', rfl, rfl, st25, hone2, hsrt2, (G2.skip (v := x.id) (e := e) hy hpos').mono tko, v25, sp2, by omega⟩
    · have ei : i = (nx x.id).length := by omega
      subst ei
      rw [List.take_length] at G2
      refine hX (n - met ds') _ _ (by omega) ⟨H2, q2, kn2, ds', bs', rfl, rfl, st2, hone2, hsrt2, G2.mono fun v e he _ => ?_⟩
      by_cases hv : v = x.id
      · exact .inr (hv ▸ he)
      · exact .inl hv
end Go.Proofs.Ytkghlmaalkmdkaa

/-
  The program's search: up, down, meet, Dist, Path.
-/
namespace Go.Proofs.Ytkghlmaalkmdkaa
open Go Go.Den

section
variable {HL : LevS} {n : Nat} {A L : List Arc} {R : List Int} {W : World}
theorem nx_up {fs : List Int} (hA : OkL n A) : NxOk n (inSrc n fs) (upL A R) (fun e => e.t) := by
  refine ⟨fun v h => h.2, fun v e he => ?_⟩
  have hm := hA.may e (mem_outL.1 (List.mem_filter.1 he).1).1
  exact ⟨hm.2.2.1, hm.2.2.2.1, hm.2.2.2.2.2.1, hm.2.2.2.2.2.2.1⟩
theorem nx_down {fs : List Int} (hA : OkL n A) : NxOk n (inSrc n fs) (downL A R) (fun e => e.f) := by
  refine ⟨fun v h => h.2, fun v e he => ?_⟩
  have hm := hA.may e (mem_inL.1 (List.mem_filter.1 he).1).1
  exact ⟨hm.1, hm.2.1, hm.2.2.2.2.2.1, hm.2.2.2.2.2.2.1⟩

theorem grow_none {from_ : Sl} {arcs end_ : Value} {Q : (Sl × Sl × Unit) → World → Prop} (hQ : ∀ w', Keep W w' → Q (⟨none, 0, 0⟩, ⟨none, 0, 0⟩, ()) w') : F_search_grow none from_ arcs end_ W Q := by
  unfold F_search_grow
  refine alloc_i fun w1 o1 k1 z1 => ?_
  refine cond_i (fun _ => ?_) (fun h => by simp at h)
  refine tree_store (a := ⟨none, 0, 0⟩) (b := ⟨none, 0, 0⟩) o1 rfl fun w2 o2 m2 _ => ?_
  refine ldN_i (l := [.slice, .slice]) (⟨none, 0, 0⟩, ⟨none, 0, 0⟩, ()) (own_all o2) ?_
  exact hQ w2 (k1.fresh m2 fun k e => by rw [show k = W.heap.size from e]; exact Nat.le_refl _)
theorem up_none {from_ : Sl} {Q : (Sl × Sl × Unit) → World → Prop} (hQ : ∀ w', Keep W w' → Q (⟨none, 0, 0⟩, ⟨none, 0, 0⟩, ()) w') : F_search_up none from_ W Q := by
  unfold F_search_up
  refine alloc_i fun w1 o1 k1 z1 => grow_none fun w2 k2 => ?_
  refine tree_store (a := ⟨none, 0, 0⟩) (b := ⟨none, 0, 0⟩) (o1.mod k2 id) rfl fun w3 o3 m3 _ => ?_
  refine ldN_i (l := [.slice, .slice]) (⟨none, 0, 0⟩, ⟨none, 0, 0⟩, ()) (own_all o3) ?_
  exact hQ w3 ((k1.tr k2).fresh m3 fun k e => by rw [show k = W.heap.size from e]; exact Nat.le_refl _)
theorem down_none {to : Sl} {Q : (Sl × Sl × Unit) → World → Prop} (hQ : ∀ w', Keep W w' → Q (⟨none, 0, 0⟩, ⟨none, 0, 0⟩, ()) w') : F_search_down none to W Q := by
  unfold F_search_down
  refine alloc_i fun w1 o1 k1 z1 => grow_none fun w2 k2 => ?_
  refine tree_store (a := ⟨none, 0, 0⟩) (b := ⟨none, 0, 0⟩) (o1.mod k2 id) rfl fun w3 o3 m3 _ => ?_
  refine ldN_i (l := [.slice, .slice]) (⟨none, 0, 0⟩, ⟨none, 0, 0⟩, ()) (own_all o3) ?_
  exact hQ w3 ((k1.tr k2).fresh m3 fun k e => by rw [show k = W.heap.size from e]; exact Nat.le_refl _)

theorem sup_i {from_ : Sl} {fs : List Int} {Q : (Sl × Sl × Unit) → World → Prop} (h : LevIs W HL n A R) (hn : n ≤ 30) (hf : Rd W from_ 1 eI fs) (hfl : fs.length ≤ 1000)
    (hQ : ∀ s1 s2 ds bs w', Grown n (inSrc n fs) (upL A R) (fun e => e.t) ds bs → Vec w' tInt 1 eI s1 ds → Vec w' tInt 1 eI s2 bs → Keep W w' → (∀ b, s1.b = some b → W.heap.size ≤ b.block) → (∀ b, s2.b = some b → W.heap.size ≤ b.block) → Q (s1, s2, ()) w') :
    F_search_up (some ⟨HL.gl, 0, none⟩) from_ W Q := by
  unfold F_search_up
  refine alloc_i fun w1 o1 k1 z1 => ?_
  refine grow_i (nx := upL A R) (en := fun e => e.t) (h.keep k1) hn (hf.mod k1 eI_ne fun _ _ => id) hfl (nx_up h.net.ok) (fun v => ?_) (fun v w K hw hK => ?_) (fun e w K hK => ?_) fun s1 s2 ds bs w2 hG v1 v2 k2 f1 f2 => ?_
  · have := h.net.ok.out_len v
    have : (upL A R v).length ≤ (outL A v).length := List.length_filter_le _ _
    omega
  · refine callV_i S_levels_Levels_Up (by kernel_rfl) (first := #[.pointer (some ⟨HL.gl, 0, none⟩)]) (cap := #[]) (decK_intro (ks := [.c .ptr, .c (.int .i64)]) (t := (some ⟨HL.gl, 0, none⟩, v, ())) ?_)
    show F_levels_Levels_Up (some ⟨HL.gl, 0, none⟩) v w fun s w' => K (.slice s.b s.l s.c) w'
    exact Up_i hw hK
  · refine callV_i S_search_up_c1 (by kernel_rfl) (first := #[]) (cap := #[]) (decK_intro (ks := [.agg [.int .i64, .int .i64, .int .i64, .int .i64]]) (t := (tupA e, ())) ?_)
    show F_search_up_c1 (tupA e) w fun x w' => K (.int .i64 x) w'
    unfold F_search_up_c1
    refine alloc_i fun w3 oa k3 _ => ?_
    exact ld1_i (k := .int .i64) e.t (own_arc (x := e) oa).2.1 (hK w3 k3)
  · have z := k1.size
    refine tree_store (a := s1) (b := s2) (o1.mod k2 id) rfl fun w3 o3 m3 _ => ?_
    refine ldN_i (l := [.slice, .slice]) (s1, s2, ()) (own_all o3) ?_
    exact hQ s1 s2 ds bs w3 hG (v1.mod m3 fun a ha e => by have := f1 a ha; have : a.block = W.heap.size := e; omega) (v2.mod m3 fun a ha e => by have := f2 a ha; have : a.block = W.heap.size := e; omega)
      ((k1.tr k2).fresh m3 fun k e => by rw [show k = W.heap.size from e]; exact Nat.le_refl _) (fun b hb => by have := f1 b hb; omega) (fun b hb => by have := f2 b hb; omega)
theorem sdown_i {to : Sl} {ts : List Int} {Q : (Sl × Sl × Unit) → World → Prop} (h : LevIs W HL n A R) (hn : n ≤ 30) (hf : Rd W to 1 eI ts) (hfl : ts.length ≤ 1000)
    (hQ : ∀ s1 s2 ds bs w', Grown n (inSrc n ts) (downL A R) (fun e => e.f) ds bs → Vec w' tInt 1 eI s1 ds → Vec w' tInt 1 eI s2 bs → Keep W w' → (∀ b, s1.b = some b → W.heap.size ≤ b.block) → (∀ b, s2.b = some b → W.heap.size ≤ b.block) → Q (s1, s2, ()) w') :
    F_search_down (some ⟨HL.gl, 0, none⟩) to W Q := by
  unfold F_search_down
  refine alloc_i fun w1 o1 k1 z1 => ?_
  refine grow_i (nx := downL A R) (en := fun e => e.f) (h.keep k1) hn (hf.mod k1 eI_ne fun _ _ => id) hfl (nx_down h.net.ok) (fun v => ?_) (fun v w K hw hK => ?_) (fun e w K hK => ?_) fun s1 s2 ds bs w2 hG v1 v2 k2 f1 f2 => ?_
  · have := h.net.ok.in_len v
    have : (downL A R v).length ≤ (inL A v).length := List.length_filter_le _ _
    omega
  · refine callV_i S_levels_Levels_Down (by kernel_rfl) (first := #[.pointer (some ⟨HL.gl, 0, none⟩)]) (cap := #[]) (decK_intro (ks := [.c .ptr, .c (.int .i64)]) (t := (some ⟨HL.gl, 0, none⟩, v, ())) ?_)
    show F_levels_Levels_Down (some ⟨HL.gl, 0, none⟩) v w fun s w' => K (.slice s.b s.l s.c) w'
    exact Down_i hw hK
  · refine callV_i S_search_down_c1 (by kernel_rfl) (first := #[]) (cap := #[]) (decK_intro (ks := [.agg [.int .i64, .int .i64, .int .i64, .int .i64]]) (t := (tupA e, ())) ?_)
    show F_search_down_c1 (tupA e) w fun x w' => K (.int .i64 x) w'
    unfold F_search_down_c1
    refine alloc_i fun w3 oa k3 _ => ?_
    exact ld1_i (k := .int .i64) e.f (own_arc (x := e) oa).1 (hK w3 k3)
  · have z := k1.size
    refine tree_store (a := s1) (b := s2) (o1.mod k2 id) rfl fun w3 o3 m3 _ => ?_
    refine ldN_i (l := [.slice, .slice]) (s1, s2, ()) (own_all o3) ?_
    exact hQ s1 s2 ds bs w3 hG (v1.mod m3 fun a ha e => by have := f1 a ha; have : a.block = W.heap.size := e; omega) (v2.mod m3 fun a ha e => by have := f2 a ha; have : a.block = W.heap.size := e; omega)
      ((k1.tr k2).fresh m3 fun k e => by rw [show k = W.heap.size from e]; exact Nat.le_refl _) (fun b hb => by have := f1 b hb; omega) (fun b hb => by have := f2 b hb; omega)

theorem meet_i {s1 t1 s2 t2 : Sl} {us ds : List Int} {Q : Int → Int → World → Prop} (h1 : Rd W s1 1 eI us) (h2 : Rd W s2 1 eI ds) (hl : us.length = ds.length) (hn : us.length ≤ 30)
    (hu : ∀ (v : Nat) (x : Int), us[v]? = some x → -1 ≤ x ∧ x ≤ 30 * BW) (hd : ∀ (v : Nat) (x : Int), ds[v]? = some x → -1 ≤ x ∧ x ≤ 30 * BW) (hQ : ∀ at_ far w', MeetIs us ds us.length at_ far → Keep W w' → Q at_ far w') : F_search_meet (s1, t1, ()) (s2, t2, ()) W Q := by
  unfold F_search_meet
  refine alloc_i fun w1 o1 k1 z1 => alloc_i fun w2 o2 k2 z2 => ?_
  have K2 := k1.tr k2
  have l1 := h1.len
  have l2 := h2.len
  have c1 : w2.cell? ((⟨W.heap.size, 0, none⟩ : Addr).add 0) = some (sv s1) := by rw [addr_lit, (o1.mod k2 id).cell]; rfl
  refine ld1_i (k := .slice) s1 c1 ?_
  refine loop_i (fun c t w3 => ∃ (k : Nat) (at_ far : Int), k ≤ us.length ∧ c = us.length - k ∧ t = (at_, far, (k : Int), ()) ∧ MeetIs us ds k at_ far ∧ Keep w2 w3) us.length ⟨0, -1, 0, Nat.zero_le _, rfl, rfl, MeetIs.start us ds, Mod.refl _ _⟩ ?_
  rintro c t w3 ⟨k, at_, far, hk, rfl, rfl, hm, k3⟩ X hX
  dsimp only
  refine cond_d (fun hlt => ?_) (fun hge => ?_)
  · have hk' : k < us.length := by omega
    obtain ⟨x, hx⟩ : ∃ x, us[k]? = some x := ⟨_, List.getElem?_eq_getElem hk'⟩
    obtain ⟨y, hy⟩ : ∃ y, ds[k]? = some y := ⟨_, List.getElem?_eq_getElem (by omega)⟩
    have xb := hu k x hx
    have yb := hd k y hy
    have cellx : ∀ {wx : World}, Keep w2 wx → ∃ p, s1.b = some p ∧ wx.cell? (p.add (k * 1)) = some (.int .i64 x) := fun kx => rd_cell (k := .int .i64) (e := fun x => x) (h1.mod (K2.tr kx) eI_ne fun _ _ => id) hx
    have celly : ∀ {wx : World}, Keep w2 wx → ∃ p, s2.b = some p ∧ wx.cell? (p.add (k * 1)) = some (.int .i64 y) := fun kx => rd_cell (k := .int .i64) (e := fun x => x) (h2.mod (K2.tr kx) eI_ne fun _ _ => id) hy
    have c2 : ∀ {wx : World}, Keep w2 wx → wx.cell? ((⟨w1.heap.size, 0, none⟩ : Addr).add 0) = some (sv s2) := fun kx => by rw [addr_lit, (o2.mod kx id).cell]; rfl
    have d3 : Keep w3 w3.drew := Mod.drew (Mod.refl _ w3)
    have k3d := k3.tr d3
    have wxy : IntKind.wrap .i64 (x + y) = x + y := w64 (by simp only [BW] at *; omega) (by simp only [BW] at *; omega)
    have b1 : 0 ≤ (k : Int) ∧ (k : Int) < (s1.l : Int) := ⟨by omega, hlt⟩
    have b2 : 0 ≤ (k : Int) ∧ (k : Int) < (s2.l : Int) := ⟨by omega, by omega⟩
    obtain ⟨p1, hp1, hc1⟩ := cellx k3
    obtain ⟨p2, hp2, hc2⟩ := celly k3
    obtain ⟨p2', hp2', hc2'⟩ := celly k3d
    rw [hp2] at hp2'; cases hp2'
    rw [Int.toNat_natCast, wi_ k (by omega)]
    have skip : (0 ≤ x → 0 ≤ y → 0 ≤ at_ ∧ far ≤ x + y) → X (at_, far, ((k + 1 : Nat) : Int), ()) w3 := fun hno => hX _ _ _ (by omega) ⟨k + 1, at_, far, hk', rfl, rfl, hm.skip hx hy hno, k3⟩
    have take : 0 ≤ x → 0 ≤ y → (at_ < 0 ∨ x + y < far) → X ((k : Int), x + y, ((k + 1 : Nat) : Int), ()) w3.drew := fun hx0 hy0 hlt2 => hX _ _ _ (by omega) ⟨k + 1, _, _, hk', rfl, rfl, hm.take hx hy hx0 hy0 hlt2, k3d⟩
    refine ⟨b1, onSome_i hp1 (ld1_i (k := .int .i64) x hc1 ?_)⟩
    refine cond_d (fun hx0 => ?_) (fun hx0 => skip fun h => absurd h hx0)
    have hx0' : 0 ≤ x := hx0
    refine ld1_i (k := .slice) s2 (c2 k3) ⟨b2, onSome_i hp2 (ld1_i (k := .int .i64) y hc2 ?_)⟩
    refine cond_d (fun hy0 => ?_) (fun hy0 => skip fun _ h => absurd h hy0)
    have hy0' : 0 ≤ y := hy0
    refine cond_d (fun ha => ?_) (fun ha => ?_)
    · refine ld1_i (k := .slice) s2 (c2 k3d) ⟨b2, onSome_i hp2 (ld1_i (k := .int .i64) y hc2' ?_)⟩
      rw [wxy]; exact take hx0' hy0' (.inl ha)
    · refine ld1_i (k := .slice) s2 (c2 k3) ⟨b2, onSome_i hp2 (ld1_i (k := .int .i64) y hc2 ?_)⟩
      rw [wxy]
      refine cond_d (fun hlt2 => ?_) (fun hge2 => ?_)
      · refine ld1_i (k := .slice) s2 (c2 k3d) ⟨b2, onSome_i hp2 (ld1_i (k := .int .i64) y hc2' ?_)⟩
        rw [wxy]; exact take hx0' hy0' (.inr hlt2)
      · refine skip fun _ _ => ⟨?_, ?_⟩
        · have : ¬ at_ < 0 := ha
          omega
        · have : ¬ x + y < far := hge2
          omega
  · have ek : k = us.length := by omega
    subst ek
    exact hQ at_ far w3 hm (K2.tr k3)

/-- How far it is, going up, then down. -/
abbrev UDD (n : Nat) (A : List Arc) (R : List Int) (from_ : Int) (ts : List Int) : Int → Prop := DP (GW (inSrc n [from_]) (upL A R) (fun e => e.t)) (GW (inSrc n ts) (downL A R) (fun e => e.f))
theorem grown_bnd30 {src : Int → Prop} {nx : Int → List Arc} {en : Arc → Int} {ds bs : List Int} (h : Grown n src nx en ds bs) (hn : n ≤ 30) : ∀ (v : Nat) (x : Int), ds[v]? = some x → -1 ≤ x ∧ x ≤ 30 * BW := fun v x hx => by
  have := h.bnd v x hx
  simp only [BW] at *
  omega

theorem Dist_i {from_ : Int} {to : Sl} {ts : List Int} {Q : Int → Bool → World → Prop} (h : LevIs W HL n A R) (hn : n ≤ 30) (ht : Rd W to 1 eI ts) (htl : ts.length ≤ 1000)
    (hQ : ∀ dd w', LeastIs (UDD n A R from_ ts) dd → Keep W w' → Q (max dd 0) (decide (0 ≤ dd)) w') : F_search_Dist (some ⟨HL.gl, 0, none⟩) from_ to W Q := by
  unfold F_search_Dist
  refine alloc_i fun w1 o1 k1 z1 => ?_
  refine sup_i (h.keep k1) hn ((Vec.new lenI [from_] o1 (by simp [maxLen])).rd lenI) (by simp) fun s1 s2 us bs w2 hG v1 v2 k2 _ _ => ?_
  have K2 := k1.tr k2
  refine sdown_i (h.keep K2) hn (ht.mod K2 eI_ne fun _ _ => id) htl fun s3 s4 ds bs' w3 hG' v3 v4 k3 _ _ => ?_
  refine meet_i ((v1.mod k3 fun _ _ => id).rd lenI) (v3.rd lenI) (by rw [hG.far.1, hG'.far.1]) (by rw [hG.far.1]; exact hn) (grown_bnd30 hG hn) (grown_bnd30 hG' hn) fun at_ far w4 hm k4 => ?_
  rw [hG.far.1] at hm
  obtain ⟨dd, hdd, e1, e2⟩ := hm.least hG.far hG'.far fun v d hv => by have := hv.rng (nx_up (R := R) h.net.ok); exact ⟨this.1, this.2.1⟩
  have e3 : decide (at_ ≥ 0) = decide (0 ≤ dd) := by rw [decide_eq_decide]; exact e2
  rw [e1, e3]
  exact hQ dd w4 hdd ((K2.tr k3).tr k4)
theorem Dist_none {from_ : Int} {to : Sl} {Q : Int → Bool → World → Prop} (hQ : ∀ w', Keep W w' → Q 0 false w') : F_search_Dist none from_ to W Q := by
  unfold F_search_Dist
  refine alloc_i fun w1 o1 k1 z1 => up_none fun w2 k2 => down_none fun w3 k3 => ?_
  refine meet_i (Rd.nil _ _ _) (Rd.nil _ _ _) rfl (by simp) (fun v x h => by simp at h) (fun v x h => by simp at h) fun at_ far w4 hm k4 => ?_
  rcases hm with ⟨rfl, rfl, _⟩ | ⟨h0, h1, _⟩
  · exact hQ w4 (((k1.tr k2).tr k3).tr k4)
  · simp at h1; omega

theorem ReverseI_i {s : Sl} {xs : List Int} {Q : World → Prop} (hs : Vec W tInt 1 eI s xs) (hl : xs.length < 1000000) (hQ : ∀ w', Vec w' tInt 1 eI s xs.reverse → Mod (fun k => ∃ a, s.b = some a ∧ k = a.block) W w' → Q w') : F_slices_Reverse_sint_int s W Q := by
  unfold F_slices_Reverse_sint_int
  have sl := hs.len
  rw [w64 (n := ((s.l : Nat) : Int) - 1) (by omega) (by omega)]
  refine loop_i (fun c t w1 => ∃ (i : Nat) (ys : List Int), 2 * i ≤ xs.length + 1 ∧ c = xs.length - i ∧ t = ((i : Int), (xs.length : Int) - 1 - i, ()) ∧ ys.length = xs.length ∧ (∀ j, (j < i ∨ xs.length ≤ j + i) → j < xs.length → ys[j]? = xs[xs.length - 1 - j]?) ∧ (∀ j, i ≤ j → j + i < xs.length → ys[j]? = xs[j]?) ∧ Vec w1 tInt 1 eI s ys ∧ Mod (fun k => ∃ a, s.b = some a ∧ k = a.block) W w1) xs.length
    ⟨0, xs, by omega, rfl, by rw [sl]; simp, rfl, fun j hj h2 => by omega, fun j _ _ => rfl, hs, Mod.refl _ _⟩ ?_
  rintro c t w1 ⟨i, ys, hi, rfl, rfl, yl, hd, hm, v1, m1⟩ X hX
  dsimp only
  refine cond_d (fun hlt => ?_) (fun hge => ?_)
  · have hi2 : i + 1 < xs.length - i := by omega
    obtain ⟨j, hj⟩ : ∃ j : Nat, j + i + 1 = xs.length := ⟨xs.length - 1 - i, by omega⟩
    have ej : (xs.length : Int) - 1 - i = (j : Int) := by omega
    rw [ej]
    obtain ⟨x, hx⟩ : ∃ x, ys[i]? = some x := ⟨_, List.getElem?_eq_getElem (show i < ys.length by omega)⟩
    obtain ⟨y, hy⟩ : ∃ y, ys[j]? = some y := ⟨_, List.getElem?_eq_getElem (show j < ys.length by omega)⟩
    have d1 : Keep w1 w1.drew := Mod.drew (Mod.refl _ w1)
    have v1d := v1.mod d1 fun _ _ => id
    obtain ⟨p, hp, hcx⟩ := rd_cell (k := .int .i64) (e := fun x => x) (v1d.rd lenI) hx
    obtain ⟨p', hp', hcy⟩ := rd_cell (k := .int .i64) (e := fun x => x) (v1d.rd lenI) hy
    rw [hp] at hp'; cases hp'
    rw [Int.toNat_natCast, Int.toNat_natCast]
    refine ⟨⟨by omega, by omega⟩, onSome_i hp (ld1_i (k := .int .i64) y hcy ⟨⟨by omega, by omega⟩, onSome_i hp (ld1_i (k := .int .i64) x hcx ⟨⟨by omega, by omega⟩, onSome_i hp ?_⟩)⟩)⟩
    refine v1d.store lenI hp (i := i) (by omega) y (v := .int .i64 y) rfl size_Int (oneI _) fun w2 v2 m2 _ => ⟨⟨by omega, by omega⟩, onSome_i hp ?_⟩
    refine v2.store lenI hp (i := j) (by simp; omega) x (v := .int .i64 x) rfl size_Int (oneI _) fun w3 v3 m3 _ => ?_
    rw [wi_ i (by omega), w64 (n := (j : Int) - 1) (by omega) (by omega)]
    have toM : ∀ {wa wb : World}, Mod (fun k => k = p.block) wa wb → Mod (fun k => ∃ a, s.b = some a ∧ k = a.block) wa wb := fun mm => mm.mono fun k _ e => ⟨p, hp, e⟩
    refine hX (xs.length - (i + 1)) _ _ (by omega) ⟨i + 1, _, by omega, rfl, ?_, by simp [yl], fun q hq hql => ?_, fun q hq1 hq2 => ?_, v3, ((m1.tr d1.wk).tr (toM m2)).tr (toM m3)⟩
    · rw [show (xs.length : Int) - 1 - ((i + 1 : Nat) : Int) = (j : Int) - 1 by omega]
    · rw [List.getElem?_set, List.getElem?_set]
      have hxx : xs[i]? = some x := by rw [← hm i (by omega) (by omega)]; exact hx
      have hyy : xs[j]? = some y := by rw [← hm j (by omega) (by omega)]; exact hy
      by_cases e1 : j = q
      · subst e1
        rw [if_pos rfl, if_pos (by simp; omega), show xs.length - 1 - j = i by omega, hxx]
      · rw [if_neg e1]
        by_cases e2 : i = q
        · subst e2
          rw [if_pos rfl, if_pos (by omega), show xs.length - 1 - i = j by omega, hyy]
        · rw [if_neg e2]
          exact hd q (by omega) hql
    · rw [List.getElem?_set, if_neg (by omega), List.getElem?_set, if_neg (by omega)]
      exact hm q (by omega) (by omega)
  · have e : ys = xs.reverse := by
      apply List.ext_getElem?
      intro j
      by_cases hj : j < xs.length
      · rw [List.getElem?_reverse hj]
        by_cases h1 : j < i ∨ xs.length ≤ j + i
        · exact hd j h1 hj
        · rw [hm j (by omega) (by omega), show xs.length - 1 - j = j by omega]
      · rw [List.getElem?_eq_none (by omega), List.getElem?_eq_none (by simp; omega)]
    subst e
    exact hQ w1 v1 m1

theorem Path_i {from_ : Int} {to : Sl} {ts : List Int} {Q : Sl → Bool → World → Prop} (h : LevIs W HL n A R) (U : UnpOk n L A R) (hrk : ∀ x : Int, 0 ≤ x → x < n → 0 ≤ rankOf R x ∧ rankOf R x < n) (hn : n ≤ 30) (ht : Rd W to 1 eI ts) (htl : ts.length ≤ 1000)
    (hno : LeastIs (UDD n A R from_ ts) (-1) → ∀ w', Keep W w' → Q ⟨none, 0, 0⟩ false w')
    (hyes : ∀ dd p s w', LeastIs (UDD n A R from_ ts) dd → 0 ≤ dd → Along L p dd → p.head? = some from_ → (∃ y, inSrc n ts y ∧ p.getLast? = some y) → Vec w' tInt 1 eI s p → Keep W w' → Q s true w') : F_search_Path (some ⟨HL.gl, 0, none⟩) from_ to W Q := by
  unfold F_search_Path
  refine alloc_i fun w1 o1 k1 z1 => ?_
  refine sup_i (h.keep k1) hn ((Vec.new lenI [from_] o1 (by simp [maxLen])).rd lenI) (by simp) fun s1 t1 us bs w2 hG v1 v2 k2 _ _ => ?_
  have K2 := k1.tr k2
  refine sdown_i (h.keep K2) hn (ht.mod K2 eI_ne fun _ _ => id) htl fun s3 t3 ds bs' w3 hG' v3 v4 k3 _ _ => ?_
  have K3 := K2.tr k3
  refine alloc_i fun w4 o4 k4 z4 => alloc_i fun w5 o5 k5 z5 => ?_
  refine tree_store (a := s1) (b := t1) (o4.mod k5 id) rfl fun w6 o6 m6 z6 => ?_
  refine tree_store (a := s3) (b := t3) (o5.mod m6 fun e => by have : w4.heap.size = w3.heap.size := e; omega) rfl fun w7 o7 m7 z7 => ?_
  have o6' := o6.mod m7 fun e => by have : w3.heap.size = w4.heap.size := e; omega
  have k37 : Keep w3 w7 := ((k4.tr k5).fresh m6 fun k e => by rw [show k = w3.heap.size from e]; exact Nat.le_refl _).fresh m7 fun k e => by rw [show k = w4.heap.size from e]; omega
  have K7 := K3.tr k37
  have v2' := (v2.mod k3 fun _ _ => id).mod k37 fun _ _ => id
  have v4' := v4.mod k37 fun _ _ => id
  refine ldN_i (l := [.slice, .slice]) (s1, t1, ()) (own_all o6') ?_
  refine ldN_i (l := [.slice, .slice]) (s3, t3, ()) (own_all o7) ?_
  refine meet_i (((v1.mod k3 fun _ _ => id).mod k37 fun _ _ => id).rd lenI) ((v3.mod k37 fun _ _ => id).rd lenI) (by rw [hG.far.1, hG'.far.1]) (by rw [hG.far.1]; exact hn) (grown_bnd30 hG hn) (grown_bnd30 hG' hn) fun at_ far w8 hm k8 => ?_
  rw [hG.far.1] at hm
  obtain ⟨dd, hdd, e1, e2⟩ := hm.least hG.far hG'.far fun v d hv => by have := hv.rng (nx_up (R := R) h.net.ok); exact ⟨this.1, this.2.1⟩
  have K8 := K7.tr k8
  refine cond_d (fun hneg => ?_) (fun hpos => ?_)
  · have hd1 : dd = -1 := by
      rcases hdd with ⟨h1, _⟩ | ⟨h1, _⟩
      · exact h1
      · have := e2.2 h1; omega
    subst hd1
    exact hno hdd w8 K8
  have hdd0 : 0 ≤ dd := e2.1 (by omega)
  have hfar : far = dd := by rw [e1]; omega
  rw [hfar] at hm
  clear hfar e1 e2 far
  rcases hm with ⟨h1, _⟩ | ⟨a0, a1, x0, y0, hx0, hy0, px, py, hsum, _⟩
  · exact absurd (show at_ < 0 by rw [h1]; decide) hpos
  have ea : ((at_.toNat : Nat) : Int) = at_ := Int.toNat_of_nonneg a0
  have hA := h.net.ok
  have b6 := (o6'.mod k8 id)
  have b7 := (o7.mod k8 id)
  have u8 := v2'.mod k8 fun _ _ => id
  have q8 := v4'.mod k8 fun _ _ => id
  clear o1 o4 o5 o6 o6' o7 v1 v2 v3 v4 v2' v4' m6 m7 k4 k5
  have za : w3.heap.size < w8.heap.size ∧ w4.heap.size < w8.heap.size := ⟨b6.lt, b7.lt⟩
  generalize w3.heap.size = ba at *
  generalize w4.heap.size = bb at *
  have hbl := hG.bl
  have hbl' := hG'.bl
  have ult := u8.len
  have qlt := q8.len
  have rka := hrk at_ a0 a1
  -- up: back from the number where they meet
  refine loop_i (fun c t w9 => ∃ (so : Sl) (out : List Int) (v : Int), t = (so, v, ()) ∧ Vec w9 tInt 1 eI so out ∧ Keep w8 w9 ∧ (∀ b, so.b = some b → w8.heap.size ≤ b.block) ∧
      ((out = [] ∧ v = at_ ∧ c = n + 1) ∨ ∃ x c' rest s, out.reverse = x :: rest ∧ Along A (x :: rest) s ∧ 0 ≤ x ∧ x < n ∧ us[x.toNat]? = some c' ∧ 0 ≤ c' ∧ c' + s = x0 ∧ bs[x.toNat]? = some v ∧ (x :: rest).getLast? = some at_ ∧ (rest.length : Int) + rankOf R x < n ∧ c = (rankOf R x).toNat)) (n + 1)
    ⟨⟨none, 0, 0⟩, [], at_, rfl, Vec.nil _ _ _ _, Mod.refl _ _, (fun b hb => by cases hb), .inl ⟨rfl, rfl, rfl⟩⟩ ?_
  rintro c t w9 ⟨so, out, v, rfl, vo, k9, fo, hst⟩ X hX
  dsimp only
  have back : ∀ {x : Int} {c' u : Int}, 0 ≤ x → us[x.toNat]? = some c' → 0 ≤ c' → bs[x.toNat]? = some u → BackOk (inSrc n [from_]) (upL A R) (fun e => e.t) us x c' u := fun {x c' u} h0 hc hc0 hu => by
    obtain ⟨u', h1, h2⟩ := hG.back x.toNat c' hc hc0
    rw [hu] at h1; cases h1
    rwa [Int.toNat_of_nonneg h0] at h2
  refine cond_d (fun hv0 => ?_) (fun hv0 => ?_)
  · -- one more
    have hv0' : 0 ≤ v := hv0
    have new : ∃ c2 rest s, Along A (v :: rest) s ∧ v < n ∧ us[v.toNat]? = some c2 ∧ 0 ≤ c2 ∧ c2 + s = x0 ∧ (v :: rest).getLast? = some at_ ∧ (rest.length : Int) + rankOf R v < n ∧ out.reverse = rest ∧ (rankOf R v).toNat < c := by
      rcases hst with ⟨h1, h2, h3⟩ | ⟨x, c', rest, s, h1, h2, h3, h4, h5, h6, h7, h8, h9, h10, h11⟩
      · subst h1; subst h2
        exact ⟨x0, [], 0, .one v, a1, hx0, px, by omega, rfl, by simp; omega, rfl, by omega⟩
      · rcases back h3 h5 h6 h8 with ⟨g1, _⟩ | ⟨g0, e, c2, g1, g2, g3, g4, g5⟩
        · omega
        · have hm := List.mem_filter.1 g3
          obtain ⟨hm1, hm2⟩ := mem_outL.1 hm.1
          have g4' : e.t = x := g4
          have hlt : rankOf R v < rankOf R x := by rw [← g4']; simpa using hm.2
          have hv1 : v < n := by have := (List.getElem?_eq_some_iff.1 g1).1; rw [hG.far.1] at this; omega
          have := (hrk v g0 hv1).1
          refine ⟨c2, x :: rest, e.w + s, .cons hm1 hm2 g4' h2, hv1, g1, g2, by omega, by rw [List.getLast?_cons_cons]; exact h9, by simp only [List.length_cons]; omega, h1, by omega⟩
    obtain ⟨c2, rest, s, n1, n2, n3, n4, n5, n6, n7, n8, n9⟩ := new
    have rkv := hrk v hv0' n2
    have olen : out.length ≤ 30 := by rw [← List.length_reverse, n8]; omega
    refine alloc_i fun w10 o10 k10 z10 => ?_
    refine append_i elem_sInt lenI oneI (vo.mod k10 fun _ _ => id) ((Vec.new lenI [v] o10 (by simp [maxLen])).rd lenI) (by simp; omega) (by simp; omega) fun r w11 v11 m11 f11 _ => ?_
    have k811 : Keep w8 w11 := (k9.tr k10).fresh m11 fun k ⟨a, ha, e⟩ => by rw [e]; exact fo a ha
    have z910 := (k9.tr k10).size
    have b11 := b6.mod k811 id
    have u11 := u8.mod k811 fun _ _ => id
    obtain ⟨v', hv'⟩ : ∃ v', bs[v.toNat]? = some v' := ⟨_, List.getElem?_eq_getElem (by omega)⟩
    obtain ⟨p, hp, hc⟩ := rd_cell (k := .int .i64) (e := fun x => x) (u11.rd lenI) hv'
    refine ld1_i (k := .slice) t1 (by rw [addr_lit, b11.cell]; rfl) ⟨⟨hv0', by omega⟩, onSome_i hp (ld1_i (k := .int .i64) v' hc ?_)⟩
    refine hX (rankOf R v).toNat _ _ n9 ⟨r, out ++ [v], v', rfl, v11, k811, fun b hb => ?_, .inr ⟨v, c2, rest, s, by rw [List.reverse_append, n8]; rfl, n1, hv0', n2, n3, n4, n5, hv', n6, n7, rfl⟩⟩
    rcases f11 with h11 | ⟨a, ha, hlt⟩
    · exact fo b (by rw [← h11]; exact hb)
    · rw [ha] at hb; cases hb; omega
  · -- the first is where it begins
    rcases hst with ⟨_, h2, _⟩ | ⟨x, c', rest, s, h1, h2, h3, h4, h5, h6, h7, h8, h9, h10, h11⟩
    · omega
    have hx := back h3 h5 h6 h8
    have hxf : x = from_ ∧ c' = 0 := by
      rcases hx with ⟨_, g2, g3⟩ | ⟨g0, _⟩
      · exact ⟨by simpa using g2.1, g3⟩
      · omega
    obtain ⟨hxf, hc0⟩ := hxf
    have rkx := hrk x h3 h4
    have olen : out.length ≤ 31 := by rw [← List.length_reverse, h1]; simp only [List.length_cons]; omega
    refine ReverseI_i vo (by omega) fun w12 v12 m12 => ?_
    have k12 : Keep w8 w12 := k9.fresh m12 fun k ⟨a, ha, e⟩ => by rw [e]; exact fo a ha
    rw [h1] at v12
    have b12 := b7.mod k12 id
    have q12 := q8.mod k12 fun _ _ => id
    obtain ⟨v1, hv1⟩ : ∃ v1, bs'[at_.toNat]? = some v1 := ⟨_, List.getElem?_eq_getElem (by omega)⟩
    obtain ⟨p, hp, hc⟩ := rd_cell (k := .int .i64) (e := fun x => x) (q12.rd lenI) hv1
    refine ld1_i (k := .slice) t3 (by rw [addr_lit, b12.cell]; rfl) ⟨⟨a0, by omega⟩, onSome_i hp (ld1_i (k := .int .i64) v1 hc ?_)⟩
    -- down: on from there
    obtain ⟨init, hinit⟩ : ∃ init, x :: rest = init ++ [at_] := by
      obtain ⟨ys, e⟩ := List.getLast?_eq_some_iff.1 h9
      exact ⟨ys, e⟩
    have ilen : init.length ≤ 30 := by
      have := congrArg List.length hinit
      simp at this
      rw [← List.length_reverse, h1] at olen
      simp at olen; omega
    have hal0 : Along A (init ++ [at_]) x0 := by
      rw [← hinit]
      have e : s = x0 := by omega
      rw [← e]; exact h2
    refine loop_i (fun c t w13 => ∃ (so : Sl) (pre : List Int) (y v c' : Int) (s : Int), t = (so, v, ()) ∧ Vec w13 tInt 1 eI so (pre ++ [y]) ∧ Keep w8 w13 ∧ (∀ b, so.b = some b → w8.heap.size ≤ b.block) ∧ Along A (pre ++ [y]) s ∧ (pre ++ [y]).head? = some from_ ∧
        0 ≤ y ∧ y < n ∧ ds[y.toNat]? = some c' ∧ 0 ≤ c' ∧ bs'[y.toNat]? = some v ∧ s + c' = x0 + y0 ∧ (pre.length : Int) + rankOf R y ≤ 60 + n ∧ c = (rankOf R y).toNat) (rankOf R at_).toNat
      ⟨so, init, at_, v1, y0, x0, rfl, by rw [← hinit]; exact v12, k12, fo, hal0, by rw [← hinit, ← hxf]; rfl, a0, a1, hy0, py, hv1, rfl, by omega, rfl⟩ ?_
    rintro c t w13 ⟨so, pre, y, v, c', s, rfl, vo, k13, fo, hal, hhd, y1, y2, y3, y4, y5, y6, y7, rfl⟩ Y hY
    dsimp only
    have rky := hrk y y1 y2
    have hbk : BackOk (inSrc n ts) (downL A R) (fun e => e.f) ds y c' v := by
      obtain ⟨u', g1, g2⟩ := hG'.back y.toNat c' y3 y4
      rw [y5] at g1; cases g1
      rwa [Int.toNat_of_nonneg y1] at g2
    refine cond_d (fun hv0 => ?_) (fun hv0 => ?_)
    · have hv0' : 0 ≤ v := hv0
      rcases hbk with ⟨g1, _⟩ | ⟨_, e, c2, g1, g2, g3, g4, g5⟩
      · omega
      have hm := List.mem_filter.1 g3
      obtain ⟨hm1, hm2⟩ := mem_inL.1 hm.1
      have g4' : e.f = y := g4
      have hlt : rankOf R v < rankOf R y := by rw [← g4']; simpa using hm.2
      have hvn : v < n := by have := (List.getElem?_eq_some_iff.1 g1).1; rw [hG'.far.1] at this; omega
      have rkv := hrk v hv0' hvn
      refine alloc_i fun w14 o14 k14 z14 => ?_
      refine append_i elem_sInt lenI oneI (vo.mod k14 fun _ _ => id) ((Vec.new lenI [v] o14 (by simp [maxLen])).rd lenI) (by simp; omega) (by simp; omega) fun r w15 v15 m15 f15 _ => ?_
      have k815 : Keep w8 w15 := (k13.tr k14).fresh m15 fun k ⟨a, ha, e⟩ => by rw [e]; exact fo a ha
      have z1314 := (k13.tr k14).size
      have b15 := b7.mod k815 id
      have q15 := q8.mod k815 fun _ _ => id
      obtain ⟨v', hv'⟩ : ∃ v', bs'[v.toNat]? = some v' := ⟨_, List.getElem?_eq_getElem (by omega)⟩
      obtain ⟨p, hp, hc⟩ := rd_cell (k := .int .i64) (e := fun x => x) (q15.rd lenI) hv'
      refine ld1_i (k := .slice) t3 (by rw [addr_lit, b15.cell]; rfl) ⟨⟨hv0', by omega⟩, onSome_i hp (ld1_i (k := .int .i64) v' hc ?_)⟩
      refine hY (rankOf R v).toNat _ _ (by omega) ⟨r, pre ++ [y], v, v', c2, s + e.w, rfl, v15, k815, fun b hb => ?_, along_snoc hm1 g4' hm2 hal, ?_, hv0', hvn, g1, g2, hv', by omega, by simp; omega, rfl⟩
      · rcases f15 with h15 | ⟨a, ha, hlt⟩
        · exact fo b (by rw [← h15]; exact hb)
        · rw [ha] at hb; cases hb; omega
      · rw [List.head?_append, hhd]; rfl
    · have hend : inSrc n ts y ∧ c' = 0 := by
        rcases hbk with ⟨_, g2, g3⟩ | ⟨g0, _⟩
        · exact ⟨g2, g3⟩
        · omega
      obtain ⟨p, hrow, hap, hph, hpl⟩ := row_along U hal
      refine Row_i (h.keep (K8.tr k13)) U hn (vo.rd lenI) (by simp; omega) (fun l s6 w16 hr v16 k16 _ => ?_) (fun hnn => by rw [hrow] at hnn; cases hnn)
      rw [hrow] at hr; cases hr
      have hs : s = dd := by omega
      rw [hs] at hap
      show Q s6 true w16
      exact hyes dd p s6 w16 hdd hdd0 hap (hph.trans hhd) ⟨y, hend.1, by rw [hpl]; simp⟩ v16 ((K8.tr k13).tr k16)
end
end Go.Proofs.Ytkghlmaalkmdkaa

/-
  The document's search: climb, Dist.
-/
namespace Go.Proofs.Ytkghlmaalkmdkaa
open Go Go.Den

abbrev nxB (down : Bool) (A : List Arc) (R : List Int) (v : Int) : List Arc := if down then downL A R v else upL A R v
abbrev enB (down : Bool) (e : Arc) : Int := if down then e.f else e.t

theorem climb_i {H : RLevS} {n : Nat} {A : List Arc} {R : List Int} {from_ : Sl} {fs : List Int} {down : Bool} {W : World} {Q : Sl → World → Prop} (h : RLevIs W H n A R) (hn : n ≤ 30) (hf : Rd W from_ 1 eI fs) (hfl : fs.length ≤ 1000)
    (hQ : ∀ s ds w', FarIs n (GW (inSrc n fs) (nxB down A R) (enB down)) ds → (∀ (v : Nat) (x : Int), ds[v]? = some x → -1 ≤ x ∧ x ≤ 30 * BW) → Vec w' tInt 1 eI s ds → Keep W w' → (∀ b, s.b = some b → W.heap.size ≤ b.block) → Q s w') :
    F_ref4_Levels_climb (some ⟨H.gl, 0, none⟩) from_ down W Q := by
  unfold F_ref4_Levels_climb
  have hA := h.net.ok
  have hfl' := hf.len
  have hN : NxOk n (inSrc n fs) (nxB down A R) (enB down) := by
    refine ⟨fun v h => h.2, fun v e he => ?_⟩
    cases down with
    | true =>
      have hm := hA.may e (mem_inL.1 (List.mem_filter.1 he).1).1
      exact ⟨hm.1, hm.2.1, hm.2.2.2.2.2.1, hm.2.2.2.2.2.2.1⟩
    | false =>
      have hm := hA.may e (mem_outL.1 (List.mem_filter.1 he).1).1
      exact ⟨hm.2.2.1, hm.2.2.2.1, hm.2.2.2.2.2.1, hm.2.2.2.2.2.2.1⟩
  have hends : ∀ v, ∀ e ∈ nxB down A R v, enB down e ≠ v := fun v e he => by
    cases down with
    | true =>
      have h1 := mem_inL.1 (List.mem_filter.1 he).1
      have hm := hA.may e h1.1
      show e.f ≠ v
      rw [← h1.2]; exact hm.2.2.2.2.1
    | false =>
      have h1 := mem_outL.1 (List.mem_filter.1 he).1
      have hm := hA.may e h1.1
      show e.t ≠ v
      rw [← h1.2]; exact Ne.symm hm.2.2.2.2.1
  have hnl : ∀ v, (nxB down A R v).length ≤ n := fun v => by
    cases down with
    | true => exact Nat.le_trans (List.length_filter_le _ _) (hA.in_len v)
    | false => exact Nat.le_trans (List.length_filter_le _ _) (hA.out_len v)
  refine onSome_i rfl (ld1_i (k := .ptr) (some ⟨H.g, 0, none⟩) h.c0 (onSome_i rfl (ld1_i (k := .int .i64) (n : Int) h.net.c0 ?_)))
  refine make_i elem_sInt (enc := eI) (0 : Int) rfl lenI (by omega) (Int.le_refl _) (by omega) (by omega) fun w1 v1 k1 => ?_
  simp only [Int.toNat_natCast] at v1 ⊢
  obtain ⟨B, hB⟩ : ∃ B, B = W.heap.size := ⟨_, rfl⟩
  rw [← hB] at v1 ⊢
  generalize hs1 : (⟨some ⟨B, 0, none⟩, n, n⟩ : Sl) = s1 at *
  have s1b : s1.b = some ⟨B, 0, none⟩ := by rw [← hs1]
  have s1l : s1.l = n := by rw [← hs1]
  have fresh : ∀ b, s1.b = some b → W.heap.size ≤ b.block := fun b hb => by rw [s1b] at hb; cases hb; exact Nat.le_of_eq hB.symm
  have put : ∀ {wa : World} {ds : List Int} {i : Nat} {x : Int} {K : World → Prop}, Keep W wa → Vec wa tInt 1 eI s1 ds → i < ds.length → (∀ wb, Keep W wb → Mod (fun k => k = B) wa wb → Vec wb tInt 1 eI s1 (ds.set i x) → K wb) → storeD Try.prog tInt ((⟨B, 0, none⟩ : Addr).add (i * 1)) (.int .i64 x) wa K := fun {wa ds i x K} k v hi hK => by
    refine v.store lenI s1b hi x (v := .int .i64 x) rfl size_Int (oneI x) fun wb vb mb _ => hK wb (k.fresh mb fun b e => by rw [show b = B from e]; omega) mb vb
  have get : ∀ {wa : World} {ds : List Int} {i : Nat} {x : Int}, Vec wa tInt 1 eI s1 ds → ds[i]? = some x → wa.cell? ((⟨B, 0, none⟩ : Addr).add (i * 1)) = some (.int .i64 x) := fun {wa ds i x} v hx => by
    obtain ⟨p, hp, hc⟩ := rd_cell (k := .int .i64) (e := fun x => x) (v.rd lenI) hx
    rw [s1b] at hp; cases hp; exact hc
  -- all are unknown
  refine loop_i (fun c t w2 => ∃ (i : Nat) (ds : List Int), i ≤ n ∧ c = n - i ∧ t = ((i : Int), ()) ∧ ds.length = n ∧ (∀ j, j < i → ds[j]? = some (-1)) ∧ Vec w2 tInt 1 eI s1 ds ∧ Keep W w2) n
    ⟨0, List.replicate n 0, Nat.zero_le _, rfl, rfl, by simp, fun j hj => by omega, v1, k1⟩ ?_
  rintro c t w2 ⟨i, ds, hi, rfl, rfl, dl, hds, v2, k2⟩ X hX
  dsimp only
  refine cond_d (fun hlt => ?_) (fun hge => ?_)
  · refine ⟨⟨by omega, hlt⟩, onSome_i rfl ?_⟩
    rw [Int.toNat_natCast]
    refine put k2 v2 (by omega) fun wb kb _ vb => ?_
    rw [wi_ i (by omega)]
    refine hX (n - (i + 1)) _ _ (by omega) ⟨i + 1, ds.set i (-1), by omega, rfl, rfl, by rw [List.length_set]; exact dl, fun j hj => ?_, vb, kb⟩
    rw [List.getElem?_set]
    by_cases e : i = j
    · rw [if_pos e, if_pos (by omega)]
    · rw [if_neg e]; exact hds j (by omega)
  have ei : i = n := by omega
  subst ei
  -- those to begin with
  refine loop_i (fun c t w4 => ∃ (j : Nat) (ds : List Int), j ≤ fs.length ∧ c = fs.length - j ∧ t = ((j : Int), ()) ∧ ds.length = i ∧ (∀ (v : Nat) (d : Int), ds[v]? = some d → (d = -1 ∨ (d = 0 ∧ inSrc i fs (v : Int) ∧ 1 ≤ met ds))) ∧ (∀ q, q < j → ∀ v, fs[q]? = some v → 0 ≤ v → v < i → ds[v.toNat]? = some 0) ∧ Vec w4 tInt 1 eI s1 ds ∧ Keep W w4) fs.length
    ⟨0, ds, Nat.zero_le _, rfl, rfl, dl, fun v d hd => .inl (by have := (List.getElem?_eq_some_iff.1 hd).1; rw [hds v (by omega)] at hd; exact (Option.some.inj hd).symm), fun q hq => by omega, v2, k2⟩ ?_
  clear hX hds v2 k2 dl
  rintro c t w4 ⟨j, ds, hj, rfl, rfl, dl, hval, hsrc, v4, k4⟩ X2 hX2
  dsimp only
  refine cond_d (fun hlt => ?_) (fun hge2 => ?_)
  · have hj' : j < fs.length := by omega
    have hget := List.getElem?_eq_getElem hj'
    have hmem := List.getElem_mem hj'
    generalize fs[j] = v at *
    have d4 : Keep w4 w4.drew := Mod.drew (Mod.refl _ w4)
    have k4d := k4.tr d4
    have v4d := v4.mod d4 fun _ _ => id
    have h4 := h.keep k4d
    obtain ⟨p, hp, hc⟩ := rd_cell (k := .int .i64) (e := fun x => x) (hf.mod k4d eI_ne fun _ _ => id) hget
    rw [Int.toNat_natCast]
    refine ⟨⟨by omega, hlt⟩, onSome_i hp (ld1_i (k := .int .i64) v hc ?_)⟩
    refine onSome_i rfl (ld1_i (k := .ptr) (some ⟨H.g, 0, none⟩) h4.c0 (onSome_i rfl (ld1_i (k := .int .i64) (i : Int) h4.net.c0 ?_)))
    rw [w64 (n := (i : Int) - 1) (by omega) (by omega)]
    refine within_i fun r hr => ?_
    rw [wi_ j (by omega)]
    refine cond_i (fun hb => ?_) (fun hb => ?_)
    · have hr' := hr.1 hb
      refine ⟨⟨by omega, hlt⟩, onSome_i hp (ld1_i (k := .int .i64) v hc ⟨⟨hr'.1, by omega⟩, onSome_i rfl ?_⟩)⟩
      have hvn : v.toNat < ds.length := by omega
      have hx := List.getElem?_eq_getElem hvn
      refine put k4d v4d hvn fun wb kb _ vb => ?_
      have hm := met_set (d := 0) hx (Int.le_refl _)
      have hm1 : 1 ≤ met (ds.set v.toNat 0) := by
        rw [hm]
        rcases hval _ _ hx with h1 | ⟨_, _, h1⟩
        · rw [if_pos (by omega)]; omega
        · omega
      have evv : ((v.toNat : Nat) : Int) = v := Int.toNat_of_nonneg hr'.1
      refine hX2 _ _ _ (by omega) ⟨j + 1, _, hj', rfl, rfl, by rw [List.length_set]; exact dl, fun u d hd => ?_, fun q hq u hu u0 u1 => ?_, vb, kb⟩
      · rw [List.getElem?_set] at hd
        by_cases e : v.toNat = u
        · rw [if_pos e, if_pos hvn] at hd
          cases hd
          exact .inr ⟨rfl, ⟨by rw [← e, evv]; exact hmem, by omega, by omega⟩, hm1⟩
        · rw [if_neg e] at hd
          exact (hval u d hd).imp id fun ⟨g1, g2, _⟩ => ⟨g1, g2, hm1⟩
      · rw [List.getElem?_set]
        by_cases e : v.toNat = u.toNat
        · rw [if_pos e, if_pos hvn]
        · rw [if_neg e]
          rcases Nat.lt_or_ge q j with h' | h'
          · exact hsrc q h' u hu u0 u1
          · have : q = j := by omega
            subst this
            rw [hget] at hu; cases hu; exact absurd rfl e
    · refine hX2 _ _ _ (by omega) ⟨j + 1, ds, hj', rfl, rfl, dl, hval, fun q hq u hu u0 u1 => ?_, v4d, k4d⟩
      rcases Nat.lt_or_ge q j with h' | h'
      · exact hsrc q h' u hu u0 u1
      · have : q = j := by omega
        subst this
        rw [hget] at hu; cases hu
        rw [hr.2 ⟨u0, by omega⟩] at hb; cases hb
  have ej : j = fs.length := by omega
  subst ej
  have b5 : CInv i (inSrc i fs) (nxB down A R) (enB down) ds := by
    refine ⟨dl, fun v hv => ?_, fun v d hd => ?_⟩
    · obtain ⟨q, hq⟩ := List.mem_iff_getElem?.1 hv.1
      exact hsrc q (List.getElem?_eq_some_iff.1 hq).1 v hq hv.2.1 hv.2.2
    · refine (hval v d hd).imp id fun ⟨g1, g2, g3⟩ => ⟨by omega, by rw [g1]; exact .nil g2, ?_⟩
      simp only [BW]; omega
  clear hval hsrc hX2 dl
  generalize ds = ds0 at *
  -- again and again
  refine loop_i (fun c t w6 => ∃ (ag : Bool) (ds : List Int), t = (ag, ()) ∧ c = (if ag then total ds + 1 else 0) ∧ CInv i (inSrc i fs) (nxB down A R) (enB down) ds ∧ Vec w6 tInt 1 eI s1 ds ∧ Keep W w6 ∧
      (ag = false → ∀ (v : Nat) (x y : Int) (e : Arc), ds[v]? = some x → 0 ≤ x → e ∈ nxB down A R (v : Int) → ds[(enB down e).toNat]? = some y → 0 ≤ y ∧ y ≤ x + e.w)) (total ds0 + 1)
    ⟨true, ds0, rfl, rfl, b5, v4, k4, fun h => by cases h⟩ ?_
  clear b5 v4 k4
  rintro c t w6 ⟨ag, ds, rfl, rfl, b6, v6, k6, hfix⟩ Y hY
  dsimp only
  cases ag with
  | false =>
    refine cond_i (fun h => by cases h) (fun _ => ?_)
    refine hQ s1 ds w6 (b6.done hN (hfix rfl)) (fun v x hx => ?_) v6 k6 fresh
    have hml := met_le ds
    rw [b6.len] at hml
    rcases b6.val v x hx with h1 | ⟨h0, _, h1⟩
    · simp only [BW]; omega
    · simp only [BW] at *; omega
  | true =>
    refine cond_i (fun _ => ?_) (fun h => by cases h)
    simp only [if_true] at hY
    refine loop_i (fun c t w7 => ∃ (j : Nat) (ag : Bool) (ds' : List Int), j ≤ i ∧ c = i - j ∧ t = (ag, (j : Int), ()) ∧ CInv i (inSrc i fs) (nxB down A R) (enB down) ds' ∧ Vec w7 tInt 1 eI s1 ds' ∧ Keep W w7 ∧ (ag = true → total ds' < total ds) ∧
        (ag = false → ds' = ds ∧ ∀ (v : Nat) (x y : Int) (e : Arc), v < j → ds[v]? = some x → 0 ≤ x → e ∈ nxB down A R (v : Int) → ds[(enB down e).toNat]? = some y → 0 ≤ y ∧ y ≤ x + e.w)) i
      ⟨0, false, ds, Nat.zero_le _, rfl, rfl, b6, v6, k6, (fun h => by cases h), fun _ => ⟨rfl, fun v x y e hv => by omega⟩⟩ ?_
    rintro c t w7 ⟨j, ag, ds', hj, rfl, rfl, b7, v7, k7, hag, hno⟩ Z hZ
    dsimp only
    have h7 := h.keep k7
    refine onSome_i rfl (ld1_i (k := .ptr) (some ⟨H.g, 0, none⟩) h7.c0 (onSome_i rfl (ld1_i (k := .int .i64) (i : Int) h7.net.c0 ?_)))
    refine cond_d (fun hlt => ?_) (fun hge3 => ?_)
    · have hj' : j < i := by omega
      have dl7 := b7.len
      obtain ⟨x, hx⟩ : ∃ x, ds'[j]? = some x := ⟨_, List.getElem?_eq_getElem (by omega)⟩
      have bj : 0 ≤ (j : Int) ∧ (j : Int) < (i : Int) := ⟨by omega, by omega⟩
      rw [Int.toNat_natCast, wi_ j (by omega)]
      refine ⟨bj, onSome_i rfl (ld1_i (k := .int .i64) x (get v7 hx) ?_)⟩
      refine cond_d (fun hx0 => ?_) (fun hx0 => ?_)
      · have hx0' : x < 0 := hx0
        refine hZ _ _ _ (by omega) ⟨j + 1, ag, ds', hj', rfl, rfl, b7, v7, k7, hag, fun hf => ⟨(hno hf).1, fun v x' y' e hv hx' hxp he hy' => ?_⟩⟩
        rcases Nat.lt_or_ge v j with h' | h'
        · exact (hno hf).2 v x' y' e h' hx' hxp he hy'
        · have : v = j := by omega
          subst this
          rw [← (hno hf).1, hx] at hx'; cases hx'; omega
      have hx0' : 0 ≤ x := by have : ¬ x < 0 := hx0; omega
      refine rUp_i h7 (by omega) (by omega) fun s2 w9 v9 k9 f9 => ?_
      intro J hJ
      have body : ∀ (s5 : Sl) (w10 : World), Vec w10 tArc 4 eArc s5 (nxB down A R (j : Int)) → Keep w7 w10 → (∀ b, s5.b = some b → w7.heap.size ≤ b.block) → J (s5, ()) w10 := by
        intro s5 w10 v10 k10 f10
        apply hJ
        dsimp only
        have l5 := v10.len
        have hxl := hnl (j : Int)
        have zW7 := k7.size
        have hB7 : B < w7.heap.size := v7.lt s1b
        have n5 : ∀ b, s5.b = some b → ¬ b.block = B := fun b hb e => by have := f10 b hb; omega
        refine loop_i (fun c t w11 => ∃ (m : Nat) (ag' : Bool) (ds2 : List Int), m ≤ (nxB down A R (j : Int)).length ∧ c = (nxB down A R (j : Int)).length - m ∧ t = (ag', (m : Int), ()) ∧ CInv i (inSrc i fs) (nxB down A R) (enB down) ds2 ∧ Vec w11 tInt 1 eI s1 ds2 ∧ Keep W w11 ∧ Vec w11 tArc 4 eArc s5 (nxB down A R (j : Int)) ∧ ds2[j]? = some x ∧ (ag' = true → total ds2 < total ds) ∧
            (ag' = false → ag = false ∧ ds2 = ds' ∧ ∀ (y : Int) (e : Arc), e ∈ (nxB down A R (j : Int)).take m → ds'[(enB down e).toNat]? = some y → 0 ≤ y ∧ y ≤ x + e.w)) (nxB down A R (j : Int)).length
          ⟨0, ag, ds', Nat.zero_le _, rfl, rfl, b7, v7.mod k10 (fun _ _ => id), k7.tr k10, v10, hx, hag, fun hf => ⟨hf, rfl, fun y e he => by cases he⟩⟩ ?_
        rintro c t w11 ⟨m, ag', ds2, hm, rfl, rfl, b11, v11, k11, va11, hxj, hag', hno'⟩ U hU
        dsimp only
        rw [wi_ m (by omega)]
        refine cond_d (fun hlt4 => ?_) (fun hge4 => ?_)
        · have hm' : m < (nxB down A R (j : Int)).length := by omega
          have hget := List.getElem?_eq_getElem hm'
          have hmem := List.getElem_mem hm'
          have htk : (nxB down A R (j : Int)).take (m + 1) = (nxB down A R (j : Int)).take m ++ [(nxB down A R (j : Int))[m]] := List.take_succ_eq_append_getElem hm'
          generalize (nxB down A R (j : Int))[m] = e at *
          obtain ⟨e0, e1, ew0, ew1⟩ := hN.arc _ e hmem
          have hne := hends _ e hmem
          have bm : 0 ≤ (m : Int) ∧ (m : Int) < (s5.l : Int) := ⟨by omega, hlt4⟩
          have arc : ∀ {wx : World}, Keep w11 wx → ∃ p, s5.b = some p ∧ wx.cell? ((p.add (m * 4)).add 0) = some (.int .i64 e.f) ∧ wx.cell? ((p.add (m * 4)).add 1) = some (.int .i64 e.t) ∧ wx.cell? ((p.add (m * 4)).add 2) = some (.int .i64 e.w) := fun kx => by
            obtain ⟨p, hp, hh⟩ := rd_tup ((va11.mod kx fun _ _ => id).rd lenA) hget
            exact ⟨p, hp, hh.1, hh.2.1, hh.2.2.1⟩
          obtain ⟨p, hp, cf, ct, cw⟩ := arc (Mod.refl _ _)
          rw [Int.toNat_natCast]
          refine ⟨bm, onSome_i hp (ld1_i (k := .int .i64) e.t ct ?_)⟩
          intro J2 hJ2
          have main : J2 (enB down e, ()) w11 := by
            apply hJ2
            dsimp only
            have dl11 := b11.len
            have bt : 0 ≤ enB down e ∧ enB down e < (i : Int) := ⟨e0, e1⟩
            obtain ⟨y, hy⟩ : ∃ y, ds2[(enB down e).toNat]? = some y := ⟨_, List.getElem?_eq_getElem (by omega)⟩
            have d11 : Keep w11 w11.drew := Mod.drew (Mod.refl _ w11)
            have dd11 : Keep w11.drew w11.drew.drew := Mod.drew (Mod.refl _ w11.drew)
            have vD := v11.mod d11 fun _ _ => id
            have vDD := vD.mod dd11 fun _ _ => id
            obtain ⟨pD, hpD, _, _, cwD⟩ := arc d11
            obtain ⟨pDD, hpDD, _, _, cwDD⟩ := arc (d11.tr dd11)
            have xb : x ≤ 30 * BW := by
              have hml := met_le ds2
              rw [b11.len] at hml
              rcases b11.val _ _ hxj with h1 | ⟨_, _, h1⟩
              · omega
              · simp only [BW] at *; omega
            have wxw : IntKind.wrap .i64 (x + e.w) = x + e.w := w64 (by simp only [BW] at *; omega) (by simp only [BW] at *; omega)
            have go : ∀ wz, Keep w11 wz → (y < 0 ∨ x + e.w < y) → storeD Try.prog tInt ((⟨B, 0, none⟩ : Addr).add ((enB down e).toNat * 1)) (.int .i64 (x + e.w)) wz fun w13 => U (true, ((m + 1 : Nat) : Int), ()) w13 := fun wz kz hlow => by
              refine put (k11.tr kz) (v11.mod kz fun _ _ => id) (by omega) fun wb kb mb vb => ?_
              obtain ⟨b13, t13⟩ := b11.lower hN (by omega) hxj hx0' hmem hy hlow
              refine hU _ _ _ (by omega) ⟨m + 1, true, _, hm', rfl, rfl, b13, vb, kb, (va11.mod kz fun _ _ => id).mod mb (fun b hb => n5 b hb), ?_, fun _ => ?_, fun h => by cases h⟩
              · rw [List.getElem?_set, if_neg (by omega)]; exact hxj
              · cases ag' with
                | true => have := hag' rfl; omega
                | false =>
                  obtain ⟨g1, g2, _⟩ := hno' rfl
                  subst g2
                  rw [← (hno g1).1]; exact t13
            have stay : (0 ≤ y ∧ y ≤ x + e.w) → U (ag', ((m + 1 : Nat) : Int), ()) w11.drew := fun hok => by
              refine hU _ _ _ (by omega) ⟨m + 1, ag', ds2, hm', rfl, rfl, b11, vD, k11.tr d11, va11.mod d11 (fun _ _ => id), hxj, hag', fun hf => ?_⟩
              obtain ⟨g1, g2, g3⟩ := hno' hf
              refine ⟨g1, g2, fun y' e' he' hy' => ?_⟩
              rw [htk] at he'
              rcases List.mem_append.1 he' with h1 | h1
              · exact g3 y' e' h1 hy'
              · have : e' = e := by simpa using h1
                subst this
                rw [← g2, hy] at hy'; cases hy'
                exact hok
            refine ⟨bt, onSome_i rfl (ld1_i (k := .int .i64) y (get vD hy) ?_)⟩
            refine cond_d (fun hy0 => ?_) (fun hy0 => ?_)
            · refine ⟨bj, onSome_i rfl (ld1_i (k := .int .i64) x (get vDD hxj) ⟨bm, onSome_i hpDD (ld1_i (k := .int .i64) e.w cwDD ⟨bt, onSome_i rfl ?_⟩)⟩)⟩
              rw [wxw]
              exact go _ (d11.tr dd11) (.inl hy0)
            · refine ⟨bt, onSome_i rfl (ld1_i (k := .int .i64) y (get vD hy) ⟨bj, onSome_i rfl (ld1_i (k := .int .i64) x (get vD hxj) ⟨bm, onSome_i hpD (ld1_i (k := .int .i64) e.w cwD ?_)⟩)⟩)⟩
              rw [wxw]
              refine cond_d (fun hgt => ?_) (fun hle => stay ?_)
              · refine ⟨bj, onSome_i rfl (ld1_i (k := .int .i64) x (get vDD hxj) ⟨bm, onSome_i hpDD (ld1_i (k := .int .i64) e.w cwDD ⟨bt, onSome_i rfl ?_⟩)⟩)⟩
                rw [wxw]
                exact go _ (d11.tr dd11) (.inr hgt)
              · have h1 : ¬ y < 0 := hy0
                have h2 : ¬ y > x + e.w := hle
                omega
          refine cond_i (fun hd => ?_) (fun hd => ?_)
          · subst hd
            exact ⟨bm, onSome_i hp (ld1_i (k := .int .i64) e.f cf main)⟩
          · subst hd
            exact main
        · have em : m = (nxB down A R (j : Int)).length := by omega
          subst em
          rw [List.take_length] at hno'
          refine hZ _ _ _ (by omega) ⟨j + 1, ag', ds2, hj', rfl, rfl, b11, v11, k11, hag', fun hf => ?_⟩
          obtain ⟨g1, g2, g3⟩ := hno' hf
          obtain ⟨q1, q2⟩ := hno g1
          refine ⟨g2.trans q1, fun v x' y' e hv hx' hxp he hy' => ?_⟩
          rcases Nat.lt_or_ge v j with h' | h'
          · exact q2 v x' y' e h' hx' hxp he hy'
          · have : v = j := by omega
            subst this
            rw [← q1] at hx' hy'
            rw [hx] at hx'; cases hx'
            exact g3 y' e he hy'
      refine cond_i (fun hd => ?_) (fun hd => ?_)
      · subst hd
        refine rDown_i (h7.keep k9) (by omega) (by omega) fun s3 w15 v15 k15 f15 => ?_
        exact body s3 w15 v15 (k9.tr k15) fun b hb => Nat.le_trans k9.size (f15 b hb)
      · subst hd
        exact body s2 w9 v9 k9 f9
    · have ej : j = i := by omega
      subst ej
      refine hY _ _ _ ?_ ⟨ag, ds', rfl, rfl, b7, v7, k7, fun hf v x y e hx hx0 he hy => ?_⟩
      · cases ag with
        | true => have := hag rfl; simp only [if_true]; omega
        | false => simp
      · obtain ⟨q1, q2⟩ := hno hf
        rw [q1] at hx hy
        exact q2 v x y e (by have := (List.getElem?_eq_some_iff.1 hx).1; rw [b6.len] at this; exact this) hx hx0 he hy

theorem rDist_i {H : RLevS} {n : Nat} {A : List Arc} {R : List Int} {from_ : Int} {to : Sl} {ts : List Int} {W : World} {Q : Int → World → Prop} (h : RLevIs W H n A R) (hn : n ≤ 30) (ht : Rd W to 1 eI ts) (htl : ts.length ≤ 1000)
    (hQ : ∀ dd w', LeastIs (DP (GW (inSrc n [from_]) (upL A R) (fun e => e.t)) (GW (inSrc n ts) (downL A R) (fun e => e.f))) dd → Keep W w' → Q dd w') : F_ref4_Levels_Dist (some ⟨H.gl, 0, none⟩) from_ to W Q := by
  unfold F_ref4_Levels_Dist
  refine alloc_i fun w1 o1 k1 z1 => ?_
  unfold F_ref4_Levels_UpAll F_ref4_Levels_DownAll
  refine climb_i (down := false) (h.keep k1) hn ((Vec.new lenI [from_] o1 (by simp [maxLen])).rd lenI) (by simp) fun s1 us w2 hU bu v1 k2 _ => ?_
  have K2 := k1.tr k2
  refine climb_i (down := true) (h.keep K2) hn (ht.mod K2 eI_ne fun _ _ => id) htl fun s2 ds w3 hD bd v2 k3 _ => ?_
  have K3 := K2.tr k3
  have hU' : FarIs n (GW (inSrc n [from_]) (upL A R) (fun e => e.t)) us := hU
  have hD' : FarIs n (GW (inSrc n ts) (downL A R) (fun e => e.f)) ds := hD
  have v1' := v1.mod k3 fun _ _ => id
  have l1 := v1'.len
  have l2 := v2.len
  have hul := hU.1
  have hdl := hD.1
  refine loop_i (fun c t w4 => ∃ (k : Nat) (at_ best far : Int), k ≤ n ∧ c = n - k ∧ t = (best, (k : Int), ()) ∧ MeetIs us ds k at_ far ∧ (at_ < 0 → best = -1) ∧ (0 ≤ at_ → best = far) ∧ Keep w3 w4) n ⟨0, -1, -1, 0, Nat.zero_le _, rfl, rfl, MeetIs.start us ds, fun _ => rfl, fun h => by omega, Mod.refl _ _⟩ ?_
  rintro c t w4 ⟨k, at_, best, far, hk, rfl, rfl, hm, hb1, hb2, k4⟩ X hX
  dsimp only
  rw [wi_ k (by omega)]
  refine cond_d (fun hlt => ?_) (fun hge => ?_)
  · have hk' : k < n := by omega
    obtain ⟨x, hx⟩ : ∃ x, us[k]? = some x := ⟨_, List.getElem?_eq_getElem (by omega)⟩
    obtain ⟨y, hy⟩ : ∃ y, ds[k]? = some y := ⟨_, List.getElem?_eq_getElem (by omega)⟩
    have xb := bu k x hx
    have yb := bd k y hy
    have d4 : Keep w4 w4.drew := Mod.drew (Mod.refl _ w4)
    have dd4 : Keep w4.drew w4.drew.drew := Mod.drew (Mod.refl _ w4.drew)
    have cellx : ∀ {wx : World}, Keep w3 wx → ∃ p, s1.b = some p ∧ wx.cell? (p.add (k * 1)) = some (.int .i64 x) := fun kx => rd_cell (k := .int .i64) (e := fun x => x) ((v1'.mod kx fun _ _ => id).rd lenI) hx
    have celly : ∀ {wx : World}, Keep w3 wx → ∃ p, s2.b = some p ∧ wx.cell? (p.add (k * 1)) = some (.int .i64 y) := fun kx => rd_cell (k := .int .i64) (e := fun x => x) ((v2.mod kx fun _ _ => id).rd lenI) hy
    have wxy : IntKind.wrap .i64 (x + y) = x + y := w64 (by simp only [BW] at *; omega) (by simp only [BW] at *; omega)
    have b1 : 0 ≤ (k : Int) ∧ (k : Int) < (s1.l : Int) := ⟨by omega, hlt⟩
    have b2 : 0 ≤ (k : Int) ∧ (k : Int) < (s2.l : Int) := ⟨by omega, by omega⟩
    have kd := k4.tr d4
    have kdd := kd.tr dd4
    obtain ⟨p1, hp1, hc1⟩ := cellx kd
    obtain ⟨p2, hp2, hc2⟩ := celly kd
    obtain ⟨p1', hp1', hc1'⟩ := cellx kdd
    obtain ⟨p2', hp2', hc2'⟩ := celly kdd
    rw [Int.toNat_natCast]
    have skip : (0 ≤ x → 0 ≤ y → 0 ≤ at_ ∧ far ≤ x + y) → X (best, ((k + 1 : Nat) : Int), ()) w4.drew := fun hno => hX _ _ _ (by omega) ⟨k + 1, at_, best, far, hk', rfl, rfl, hm.skip hx hy hno, hb1, hb2, kd⟩
    have take : 0 ≤ x → 0 ≤ y → (at_ < 0 ∨ x + y < far) → X (x + y, ((k + 1 : Nat) : Int), ()) w4.drew.drew := fun hx0 hy0 hlt2 => hX _ _ _ (by omega) ⟨k + 1, (k : Int), x + y, x + y, hk', rfl, rfl, hm.take hx hy hx0 hy0 hlt2, fun h => by omega, fun _ => rfl, kdd⟩
    have hbn : ∀ {b : Int}, (at_ < 0 → b = -1) → (0 ≤ at_ → b = far) → (b < 0 ↔ at_ < 0) := fun {b} q1 q2 => by
      rcases hm with ⟨g1, g2, _⟩ | ⟨g1, _, x0, y0, _, _, g3, g4, g5, _⟩
      · have := q1 (by omega); omega
      · have := q2 g1; omega
    have hbn' := hbn hb1 hb2
    refine ⟨b1, onSome_i hp1 (ld1_i (k := .int .i64) x hc1 ?_)⟩
    refine cond_d (fun hx0 => ?_) (fun hx0 => skip fun h => absurd h hx0)
    have hx0' : 0 ≤ x := hx0
    refine ⟨b2, onSome_i hp2 (ld1_i (k := .int .i64) y hc2 ?_)⟩
    refine cond_d (fun hy0 => ?_) (fun hy0 => skip fun _ h => absurd h hy0)
    have hy0' : 0 ≤ y := hy0
    refine cond_d (fun ha => ?_) (fun ha => ?_)
    · refine ⟨b1, onSome_i hp1' (ld1_i (k := .int .i64) x hc1' ⟨b2, onSome_i hp2' (ld1_i (k := .int .i64) y hc2' ?_)⟩)⟩
      rw [wxy]; exact take hx0' hy0' (.inl (hbn'.1 ha))
    · have ha' : ¬ at_ < 0 := fun h => ha (hbn'.2 h)
      have hbf := hb2 (by omega)
      refine ⟨b1, onSome_i hp1 (ld1_i (k := .int .i64) x hc1 ⟨b2, onSome_i hp2 (ld1_i (k := .int .i64) y hc2 ?_)⟩)⟩
      rw [wxy]
      refine cond_d (fun hlt2 => ?_) (fun hge2 => ?_)
      · refine ⟨b1, onSome_i hp1' (ld1_i (k := .int .i64) x hc1' ⟨b2, onSome_i hp2' (ld1_i (k := .int .i64) y hc2' ?_)⟩)⟩
        rw [wxy]; exact take hx0' hy0' (.inr (by rw [← hbf]; exact hlt2))
      · refine skip fun _ _ => ⟨by omega, ?_⟩
        have : ¬ x + y < best := hge2
        omega
  · have ek : k = n := by omega
    subst ek
    obtain ⟨dd, hdd, e1, e2⟩ := hm.least hU' hD' fun v d hv => by
      have hN : NxOk k (inSrc k [from_]) (upL A R) (fun e => e.t) := by
        refine ⟨fun v h => h.2, fun v e he => ?_⟩
        have hmm := h.net.ok.may e (mem_outL.1 (List.mem_filter.1 he).1).1
        exact ⟨hmm.2.2.1, hmm.2.2.2.1, hmm.2.2.2.2.2.1, hmm.2.2.2.2.2.2.1⟩
      have := hv.rng hN
      exact ⟨this.1, this.2.1⟩
    have : best = dd := by
      rcases Int.lt_or_le at_ 0 with h' | h'
      · have h1 := hb1 h'
        rcases hdd with ⟨g, _⟩ | ⟨g, _⟩
        · omega
        · have := e2.2 g; omega
      · have h1 := hb2 h'
        have := e2.1 h'
        omega
    rw [this]
    exact hQ dd w4 hdd (K3.tr k4)
end Go.Proofs.Ytkghlmaalkmdkaa

/-
  Whether two rows of whole numbers are the same.
-/
namespace Go.Proofs.Ytkghlmaalkmdkaa
open Go Go.Den

theorem Ints_i {a b : Sl} {xs ys : List Int} {w : World} {Q : Bool → World → Prop} (ha : Rd w a 1 eI xs) (hb : Rd w b 1 eI ys) (hl : xs.length < 1000000) (hQ : ∀ (r : Bool) w', Keep w w' → (r = true ↔ xs = ys) → Q r w') : F_alike_Ints a b w Q := by
  unfold F_alike_Ints
  have la := ha.len
  have lb := hb.len
  refine cond_i (fun h => ?_) (fun h => ?_)
  · refine hQ false w (Mod.refl _ _) ⟨fun h => (by cases h), fun e => ?_⟩
    rw [la, lb, e] at h; simp at h
  · have hab : xs.length = ys.length := by simp at h; omega
    refine loop_i (fun c t w1 => ∃ (i : Nat), i ≤ xs.length ∧ c = xs.length - i ∧ t = ((i : Int), ()) ∧ Keep w w1 ∧ ∀ j, j < i → xs[j]? = ys[j]?) xs.length ⟨0, Nat.zero_le _, rfl, rfl, Mod.refl _ _, fun j hj => by omega⟩ ?_
    rintro c t w1 ⟨i, hi, rfl, rfl, k1, he⟩ X hX
    dsimp only
    refine cond_d (fun hlt => ?_) (fun hge => ?_)
    · have hx := List.getElem?_eq_getElem (show i < xs.length by omega)
      have hy := List.getElem?_eq_getElem (show i < ys.length by omega)
      have d1 : Keep w1 w1.drew := Mod.drew (Mod.refl _ w1)
      have K1 := k1.tr d1
      obtain ⟨p, hp, hc⟩ := rd_cell (k := .int .i64) (e := fun x => x) (ha.mod K1 eI_ne fun _ _ => id) hx
      obtain ⟨p', hp', hc'⟩ := rd_cell (k := .int .i64) (e := fun x => x) (hb.mod K1 eI_ne fun _ _ => id) hy
      rw [Int.toNat_natCast]
      refine ⟨⟨by omega, hlt⟩, onSome_i hp (ld1_i (k := .int .i64) xs[i] hc ⟨⟨by omega, by omega⟩, onSome_i hp' (ld1_i (k := .int .i64) ys[i] hc' ?_)⟩)⟩
      refine cond_i (fun hne => ?_) (fun heq => ?_)
      · refine hQ false _ K1 ⟨fun h => (by cases h), fun e => ?_⟩
        subst e
        exact absurd hne (by show ¬ ((xs[i] != xs[i]) = true); simp)
      · have heq' : xs[i] = ys[i] := by
          have : (xs[i] != ys[i]) = false := heq
          simpa using this
        rw [w64 (by omega) (by omega)]
        refine hX (xs.length - (i + 1)) _ _ (by omega) ⟨i + 1, by omega, rfl, rfl, K1, fun j hj => ?_⟩
        rcases Nat.lt_or_ge j i with h | h
        · exact he j h
        · have : j = i := by omega
          subst this
          rw [hx, hy, heq']
    · refine hQ true w1 k1 ⟨fun _ => ?_, fun _ => rfl⟩
      apply List.ext_getElem?
      intro j
      by_cases hj : j < xs.length
      · exact he j (by omega)
      · rw [List.getElem?_eq_none (by omega), List.getElem?_eq_none (by omega)]
end Go.Proofs.Ytkghlmaalkmdkaa

/-
  The document's distances: All.
-/
namespace Go.Proofs.Ytkghlmaalkmdkaa
open Go Go.Den

theorem rAll_i {w : World} {g : Nat} {s : Sl} {n : Nat} {L : List Arc} {a : Int} {Q : Sl → World → Prop} (h : RNetIs w g s n L) (hl : L.length < 1099511627776)
    (hQ : ∀ s' w' ds, Vec w' tInt 1 eI s' ds → ds.length = n → (0 ≤ a → a < n → ∀ (v : Nat) (d : Int), ds[v]? = some d → DistIs L a (v : Int) d) → (¬ (0 ≤ a ∧ a < n) → ∀ (v : Nat) (d : Int), ds[v]? = some d → d = -1) → Keep w w' → (∀ b, s'.b = some b → w.heap.size ≤ b.block) → Q s' w') :
    F_ref4_Net_All (some ⟨g, 0, none⟩) a w Q := by
  unfold F_ref4_Net_All
  have hL := h.ok
  have hn := h.sz
  refine onSome_i rfl (ld1_i (k := .int .i64) (n : Int) h.c0 ?_)
  refine make_i elem_sInt (enc := eI) (0 : Int) rfl lenI (by omega) (Int.le_refl _) (by omega) (by omega) fun w1 v1 k1 => ?_
  simp only [Int.toNat_natCast] at v1 ⊢
  generalize hB : w.heap.size = B at *
  generalize hs1 : (⟨some ⟨B, 0, none⟩, n, n⟩ : Sl) = s1 at *
  have s1l : s1.l = n := by rw [← hs1]
  have s1b : s1.b = some ⟨B, 0, none⟩ := by rw [← hs1]
  have nB : ∀ k, rhas g s k → ¬ k = B := fun k hk e => by have := h.lt hk; omega
  have fresh : ∀ b, s1.b = some b → B ≤ b.block := fun b hb => by rw [s1b] at hb; cases hb; exact Nat.le_refl _
  -- one place is written
  have put : ∀ {wa : World} {ds : List Int} {i : Nat} {x : Int} {K : World → Prop}, Keep w wa → Vec wa tInt 1 eI s1 ds → i < ds.length → (∀ wb, Keep w wb → Vec wb tInt 1 eI s1 (ds.set i x) → K wb) → storeD Try.prog tInt ((⟨B, 0, none⟩ : Addr).add (i * 1)) (.int .i64 x) wa K := fun {wa ds i x K} k v hi hK => by
    refine v.store lenI s1b hi x (v := .int .i64 x) rfl size_Int (oneI x) fun wb vb mb _ => hK wb (k.fresh mb fun b e => by rw [show b = B from e]; omega) vb
  have get : ∀ {wa : World} {ds : List Int} {i : Nat} {x : Int}, Vec wa tInt 1 eI s1 ds → ds[i]? = some x → wa.cell? ((⟨B, 0, none⟩ : Addr).add (i * 1)) = some (.int .i64 x) := fun {wa ds i x} v hx => by
    obtain ⟨p, hp, hc⟩ := rd_cell (k := .int .i64) (e := fun x => x) (v.rd lenI) hx
    rw [s1b] at hp; cases hp; exact hc
  have wi : ∀ i : Nat, i < 1099511627776 → IntKind.wrap .i64 ((i : Int) + 1) = ((i + 1 : Nat) : Int) := fun i hi => by rw [w64 (by omega) (by omega)]; rfl
  refine loop_i (fun c t w2 => ∃ (i : Nat) (ds : List Int), i ≤ n ∧ c = n - i ∧ t = ((i : Int), ()) ∧ ds.length = n ∧ (∀ j, j < i → ds[j]? = some (-1)) ∧ Vec w2 tInt 1 eI s1 ds ∧ Keep w w2) n
    ⟨0, List.replicate n 0, Nat.zero_le _, rfl, rfl, by simp, fun j hj => by omega, v1, k1⟩ ?_
  rintro c t w2 ⟨i, ds, hi, rfl, rfl, dl, hds, v2, k2⟩ X hX
  dsimp only
  have h2 := h.keep k2
  refine onSome_i rfl (ld1_i (k := .int .i64) (n : Int) h2.c0 ?_)
  refine cond_d (fun hlt => ?_) (fun hge => ?_)
  · refine ⟨⟨by omega, hlt⟩, onSome_i rfl ?_⟩
    rw [Int.toNat_natCast]
    refine put k2 v2 (by omega) fun wb kb vb => ?_
    rw [wi i (by omega)]
    refine hX (n - (i + 1)) _ _ (by omega) ⟨i + 1, ds.set i (-1), by omega, rfl, rfl, by rw [List.length_set]; exact dl, fun j hj => ?_, vb, kb⟩
    rw [List.getElem?_set]
    by_cases e : i = j
    · rw [if_pos e, if_pos (by omega)]
    · rw [if_neg e]; exact hds j (by omega)
  · have e : i = n := by omega
    subst e
    have hrep : ds = List.replicate i (-1) := by
      apply List.ext_getElem?
      intro j
      rw [List.getElem?_replicate]
      by_cases hj : j < i
      · rw [if_pos hj]; exact hds j hj
      · rw [if_neg hj, List.getElem?_eq_none (by omega)]
    refine onSome_i rfl (ld1_i (k := .int .i64) (i : Int) h2.c0 ?_)
    rw [w64 (n := (i : Int) - 1) (by omega) (by omega)]
    refine within_i fun r hr => ?_
    refine cond_i (fun hb => ?_) (fun hb => ?_)
    · have hno : ¬ (0 ≤ a ∧ a < i) := fun h => by rw [hr.2 ⟨h.1, by omega⟩] at hb; cases hb
      exact hQ s1 w2 ds v2 dl (fun h0 h1 => absurd ⟨h0, h1⟩ hno) (fun _ v d hd => by
        rw [hrep, List.getElem?_replicate] at hd
        split at hd
        · cases hd; rfl
        · cases hd) k2 fresh
    · have hr' := hr.1 (by cases r <;> simp at hb ⊢)
      have ha : 0 ≤ a := hr'.1
      have ha' : a < i := by omega
      refine ⟨⟨ha, ha'⟩, onSome_i rfl ?_⟩
      refine put k2 v2 (by omega) fun w5 k5 v5 => ?_
      have b5 : BF i L a (ds.set a.toNat 0) := by rw [hrep]; exact BF.start ha ha'
      generalize ds.set a.toNat 0 = ds0 at *
      clear hds hrep v2 k2 h2 dl
      refine loop_i (fun c t w6 => ∃ (ag : Bool) (ds : List Int), t = (ag, ()) ∧ c = (if ag then total ds + 1 else 0) ∧ BF i L a ds ∧ Vec w6 tInt 1 eI s1 ds ∧ Keep w w6 ∧
          (ag = false → ∀ e ∈ L, ∀ x y, ds[e.f.toNat]? = some x → ds[e.t.toNat]? = some y → 0 ≤ x → 0 ≤ y ∧ y ≤ x + e.w)) (total ds0 + 1)
        ⟨true, ds0, rfl, rfl, b5, v5, k5, fun h => by cases h⟩ ?_
      rintro c t w6 ⟨ag, ds, rfl, rfl, b6, v6, k6, hfix⟩ Y hY
      dsimp only
      cases ag with
      | false =>
        refine cond_i (fun h => by cases h) (fun _ => ?_)
        exact hQ s1 w6 ds v6 b6.len (fun _ _ => b6.dist hL ha (hfix rfl)) (fun hno => absurd ⟨ha, ha'⟩ hno) k6 fresh
      | true =>
        refine cond_i (fun _ => ?_) (fun h => by cases h)
        simp only [if_true] at hY
        refine loop_i (fun c t w7 => ∃ (j : Nat) (ag : Bool) (ds' : List Int), j ≤ L.length ∧ c = L.length - j ∧ t = (ag, (j : Int), ()) ∧ BF i L a ds' ∧ Vec w7 tInt 1 eI s1 ds' ∧ Keep w w7 ∧ (ag = true → total ds' < total ds) ∧
            (ag = false → ds' = ds ∧ ∀ m e, m < j → L[m]? = some e → ∀ x y, ds[e.f.toNat]? = some x → ds[e.t.toNat]? = some y → 0 ≤ x → 0 ≤ y ∧ y ≤ x + e.w)) L.length
          ⟨0, false, ds, Nat.zero_le _, rfl, rfl, b6, v6, k6, (fun h => by cases h), fun _ => ⟨rfl, fun m e hm => by omega⟩⟩ ?_
        rintro c t w7 ⟨j, ag, ds', hj, rfl, rfl, b7, v7, k7, hag, hno⟩ Z hZ
        dsimp only
        have h7 := h.keep k7
        have hsl := h7.vec.len
        refine onSome_i rfl (ld1_i (k := .slice) s h7.c1 ?_)
        refine cond_d (fun hlt => ?_) (fun hge => ?_)
        · have hj' : j < L.length := by omega
          obtain ⟨p, hp, hh⟩ := rd_tup (h7.vec.rd lenA) (List.getElem?_eq_getElem hj')
          have hget : L[j]? = some L[j] := List.getElem?_eq_getElem hj'
          have heL := List.getElem_mem hj'
          generalize L[j] = e at *
          obtain ⟨ef0, ef1, et0, et1, _, ew0, ew1, _⟩ := hL.may e heL
          refine onSome_i rfl (ld1_i (k := .slice) s h7.c1 ⟨⟨by omega, by omega⟩, onSome_i hp (ldN_i (tupA e) hh ?_)⟩)
          simp only [allocD]
          have kA := Keep.alloc w7 (.cells #[Value.int .i64 0, Value.int .i64 0, Value.int .i64 0, Value.int .i64 0] 38)
          have oA : Own (w7.alloc (.cells #[Value.int .i64 0, Value.int .i64 0, Value.int .i64 0, Value.int .i64 0] 38)) w7.heap.size 38 (eArc ⟨0, 0, 0, 0⟩) := Own.alloc' w7 _ _
          generalize w7.alloc (.cells #[Value.int .i64 0, Value.int .i64 0, Value.int .i64 0, Value.int .i64 0] 38) = wA at *
          refine zero_store (x := e) oA rfl fun w9 o9 m9 => ?_
          have k9' : Keep w7 w9 := Mod.fresh kA m9 fun b hb => by omega
          have k9 : Keep w w9 := k7.tr k9'
          have v9 := v7.mod k9' fun _ _ => id
          generalize w7.heap.size = b9 at *
          have d9 : Keep w9 w9.drew := Mod.drew (Mod.refl _ w9)
          have dd9 : Keep w9.drew w9.drew.drew := Mod.drew (Mod.refl _ w9.drew)
          have oD := o9.mod d9 id
          have oDD := oD.mod dd9 id
          have vD := v9.mod d9 fun _ _ => id
          have vDD := vD.mod dd9 fun _ _ => id
          have c0 : w9.drew.cell? ((⟨b9, 0, none⟩ : Addr).add 0) = some (.int .i64 e.f) := by rw [addr_lit, oD.cell]; rfl
          have c1 : w9.drew.cell? ((⟨b9, 0, none⟩ : Addr).add 1) = some (.int .i64 e.t) := by rw [addr_lit, oD.cell]; rfl
          have c2 : w9.drew.cell? ((⟨b9, 0, none⟩ : Addr).add 2) = some (.int .i64 e.w) := by rw [addr_lit, oD.cell]; rfl
          have e0 : w9.drew.drew.cell? ((⟨b9, 0, none⟩ : Addr).add 0) = some (.int .i64 e.f) := by rw [addr_lit, oDD.cell]; rfl
          have e1 : w9.drew.drew.cell? ((⟨b9, 0, none⟩ : Addr).add 1) = some (.int .i64 e.t) := by rw [addr_lit, oDD.cell]; rfl
          have e2 : w9.drew.drew.cell? ((⟨b9, 0, none⟩ : Addr).add 2) = some (.int .i64 e.w) := by rw [addr_lit, oDD.cell]; rfl
          have dl := b7.len
          have hx : ds'[e.f.toNat]? = some ds'[e.f.toNat] := List.getElem?_eq_getElem (by omega)
          have hy : ds'[e.t.toNat]? = some ds'[e.t.toNat] := List.getElem?_eq_getElem (by omega)
          generalize ds'[e.f.toNat] = x at *
          generalize ds'[e.t.toNat] = y at *
          have xb : x < 1000000000000000 ∧ -2 < x := by
            have hml : met ds' ≤ i := b7.len ▸ met_le ds'
            rcases b7.walk _ _ hx with h1 | ⟨h1, _, h3⟩ <;> omega
          have bf : 0 ≤ e.f ∧ e.f < (i : Int) := ⟨ef0, ef1⟩
          have bt : 0 ≤ e.t ∧ e.t < (i : Int) := ⟨et0, et1⟩
          have go : ∀ w10, Keep w w10 → Vec w10 tInt 1 eI s1 (ds'.set e.t.toNat (x + e.w)) → 0 ≤ x → (y < 0 ∨ x + e.w < y) → Z (true, IntKind.wrap .i64 ((j : Int) + 1), ()) w10 := fun w10 k10 v10 hx0 hlt' => by
            obtain ⟨b10, t10⟩ := b7.lower hL hn heL hx hy hx0 hlt'
            rw [wi j (by omega)]
            refine hZ (L.length - (j + 1)) _ _ (by omega) ⟨j + 1, true, _, hj', rfl, rfl, b10, v10, k10, fun _ => ?_, fun h => by cases h⟩
            cases ag with
            | true => have := hag rfl; omega
            | false => rw [(hno rfl).1] at t10 ⊢; exact t10
          have stay : (0 ≤ x → 0 ≤ y ∧ y ≤ x + e.w) → Z (ag, IntKind.wrap .i64 ((j : Int) + 1), ()) w9.drew := fun hok => by
            rw [wi j (by omega)]
            refine hZ (L.length - (j + 1)) _ _ (by omega) ⟨j + 1, ag, ds', hj', rfl, rfl, b7, vD, k9.tr d9, hag, fun hf => ⟨(hno hf).1, fun m e' hm he' x' y' hx' hy' hx0 => ?_⟩⟩
            rcases Nat.lt_or_ge m j with h | h
            · exact (hno hf).2 m e' h he' x' y' hx' hy' hx0
            · have : m = j := by omega
              subst this
              rw [hget] at he'; cases he'
              rw [← (hno hf).1] at hx' hy'
              rw [hx] at hx'; rw [hy] at hy'
              cases hx'; cases hy'
              exact hok hx0
          refine ld1_i (k := .int .i64) e.f c0 ⟨bf, onSome_i rfl (ld1_i (k := .int .i64) x (get vD hx) ?_)⟩
          refine cond_d (fun hx0 => ?_) (fun hx0 => stay fun h => absurd h hx0)
          have hx0' : 0 ≤ x := hx0
          refine ld1_i (k := .int .i64) e.t c1 ⟨bt, onSome_i rfl (ld1_i (k := .int .i64) y (get vD hy) ?_)⟩
          have wxw : IntKind.wrap .i64 (x + e.w) = x + e.w := w64 (by omega) (by omega)
          refine cond_d (fun hy0 => ?_) (fun hy0 => ?_)
          · refine ld1_i (k := .int .i64) e.t e1 (ld1_i (k := .int .i64) e.f e0 ⟨bf, onSome_i rfl (ld1_i (k := .int .i64) x (get vDD hx) (ld1_i (k := .int .i64) e.w e2 ⟨bt, onSome_i rfl ?_⟩))⟩)
            rw [wxw]
            exact put ((k9.tr d9).tr dd9) vDD (by omega) fun w10 k10 v10 => go w10 k10 v10 hx0' (.inl hy0)
          · refine ld1_i (k := .int .i64) e.t c1 ⟨bt, onSome_i rfl (ld1_i (k := .int .i64) y (get vD hy) (ld1_i (k := .int .i64) e.f c0 ⟨bf, onSome_i rfl (ld1_i (k := .int .i64) x (get vD hx) (ld1_i (k := .int .i64) e.w c2 ?_))⟩))⟩
            rw [wxw]
            refine cond_d (fun hgt => ?_) (fun hle => stay fun _ => ?_)
            · refine ld1_i (k := .int .i64) e.t e1 (ld1_i (k := .int .i64) e.f e0 ⟨bf, onSome_i rfl (ld1_i (k := .int .i64) x (get vDD hx) (ld1_i (k := .int .i64) e.w e2 ⟨bt, onSome_i rfl ?_⟩))⟩)
              rw [wxw]
              exact put ((k9.tr d9).tr dd9) vDD (by omega) fun w10 k10 v10 => go w10 k10 v10 hx0' (.inr hgt)
            · have h1 : ¬ y < 0 := hy0
              have h2 : ¬ y > x + e.w := hle
              omega
        · have ej : j = L.length := by omega
          subst ej
          refine hY _ _ _ ?_ ⟨ag, ds', rfl, rfl, b7, v7, k7, fun hf e he x y hx hy hx0 => ?_⟩
          · cases ag with
            | true => have := hag rfl; simp only [if_true]; omega
            | false => simp
          · obtain ⟨m, hm⟩ := List.mem_iff_getElem?.1 he
            have := (List.getElem?_eq_some_iff.1 hm).1
            rw [(hno hf).1] at hx hy
            exact (hno hf).2 m e this hm x y hx hy hx0
end Go.Proofs.Ytkghlmaalkmdkaa
