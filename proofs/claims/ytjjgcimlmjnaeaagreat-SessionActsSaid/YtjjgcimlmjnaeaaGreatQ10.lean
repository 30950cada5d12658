import Derived.Test.YtjjgcimlmjnaeaaGreatQ9
import Derived.Test.YtjjgcimlmjnaeaaGreatA5
import Derived.Test.YtjjgcimlmjnaeaaGreatFShu
namespace Go.Proofs.YtjjgcimlmjnaeaaGreat
open Go Go.Den
theorem MsgsIs.part {w : World} {P : Nat → Prop} {s : Sl} {l : List MsgP} (h : MsgsIs w P s l) {i : Nat} (hi : i ≤ l.length) : MsgsIs w P ⟨sliceAddr s.b s.c i 9, s.l - i, s.c - i⟩ (l.drop i) := by
 have hlen := h.len
 obtain ⟨xs, h1, h2, h3, h4⟩ := h
 have hp := h1.part (i := i) (j := s.l) (c := s.c) (by omega) (Nat.le_refl _) h1.cap (Nat.le_refl _)
 have hx : xs.length = s.l := h1.len.symm
 rw [List.take_of_length_le (by rw [List.length_drop]; omega)] at hp
 refine ⟨xs.drop i, hp, by rw [List.map_drop, h2], fun b hb => ?_, fun x hx => h4 x (List.mem_of_mem_drop hx)⟩
 obtain ⟨a0, ha0, e⟩ := slice_blk hb
 rw [e]; exact h3 a0 ha0
end Go.Proofs.YtjjgcimlmjnaeaaGreat

namespace Go.Proofs.YtjjgcimlmjnaeaaGreat
open Go Go.Den
theorem pushI_i {w : World} {B : Nat} {o : Sl} {xs : List Int} {x : Int} {K : Sl → World → Prop} (v : Vec w tInt 1 eI o xs) (hl : xs.length < 100000) (fB : ∀ b, o.b = some b → B ≤ b.block) (hB : B ≤ w.heap.size)
  (hK : ∀ r w', Vec w' tInt 1 eI r (xs ++ [x]) → (∀ b, r.b = some b → B ≤ b.block) → Mod (fun k => B ≤ k) w w' → K r w') : allocD w #[Value.int .i64 x] tInt fun a w4 => appendD Tryz.prog tsInt tsInt o (Value.slice (some a) 1 1) w4 K := by
 refine alloc_i fun w4 o4 k4 z4 => ?_
 have vx : Vec w4 tInt 1 eI ⟨some ⟨w.heap.size, 0, none⟩, 1, 1⟩ [x] := Vec.new lenI [x] o4 (by simp [maxLen])
 refine append_i elem_sInt lenI oneI (v.mod k4 fun _ _ => id) (vx.rd lenI) (by simp only [List.length_cons, List.length_nil]; omega) (by simp only [List.length_cons, List.length_nil]; omega) fun r w5 v5 m5 f5 _ => ?_
 refine hK r w5 v5 (fun b hb => ?_) (k4.wk.tr (m5.mono fun k _ ⟨b, hb, e⟩ => by rw [e]; exact fB b hb))
 rcases f5 with h1 | ⟨a, ha, hlt'⟩
 ·exact fB b (by rw [← h1]; exact hb)
 ·rw [hb] at ha; cases ha; omega
theorem filt_len {c : List Bool} {i : Nat} : ((ints i).filter fun e => shutB c e).length ≤ i := by
 have := List.length_filter_le (fun e => shutB c e) (ints i)
 rw [ints_len] at this; exact this
theorem filt_succ {c : List Bool} {i : Nat} : (ints (i + 1)).filter (fun e => shutB c e) = (ints i).filter (fun e => shutB c e) ++ if shutB c (i : Int) = true then [(i : Int)] else [] := by
 rw [ints_succ, List.filter_append]
 congr 1
 by_cases ht : shutB c (i : Int) = true <;> simp [ht]
theorem listB_i {s : Sl} {c : List Bool} {w : World} {Q : (Sl × Int × Unit) → World → Prop} (hr : Rd w s 1 eB c) (hl : c.length ≤ 10000) (hQ : ∀ r i w', Vec w' tInt 1 eI r ((ints c.length).filter fun e => shutB c e) → Keep w w' → (∀ b, r.b = some b → w.heap.size ≤ b.block) → Q (r, i, ()) w') :
  ∀ X1 : (Sl × Int × Unit) → World → Prop, (∀ (t5 : Sl × Int × Unit) (w13 : World), (
   cond (decide (t5.2.1 < ((s.l : Nat) : Int))) ((0 ≤ t5.2.1 ∧ t5.2.1 < ((s.l : Nat) : Int)) ∧ onSome s.b fun a3 => ld1 .bool w13 (a3.add (Int.toNat t5.2.1 * 1)) fun (b5 : Bool) =>
    cond b5 (allocD w13 #[Value.int .i64 t5.2.1] tInt fun a4 w14 => appendD Tryz.prog tsInt tsInt t5.1 (Value.slice (some a4) 1 1) w14 fun (s7 : Sl) w15 => X1 (s7, (IntKind.wrap .i64 (t5.2.1 + (1 : Int))), ()) w15)
    (X1 (t5.1, (IntKind.wrap .i64 (t5.2.1 + (1 : Int))), ()) w13)) (Q t5 w13)) → X1 t5 w13) → X1 (⟨none, 0, 0⟩, (0 : Int), ()) w := by
 have hll := hr.len
 refine loop_i (fun n t w2 => ∃ (i : Nat) (o : Sl), i ≤ c.length ∧ n = c.length - i ∧ t = (o, (i : Int), ()) ∧ Keep w w2 ∧ Vec w2 tInt 1 eI o ((ints i).filter fun e => shutB c e) ∧ (∀ b, o.b = some b → w.heap.size ≤ b.block)) c.length
  ⟨0, ⟨none, 0, 0⟩, Nat.zero_le _, rfl, rfl, Mod.refl _ _, Vec.nil _ _ _ _, fun b hb => by cases hb⟩ ?_
 rintro n t w2 ⟨i, o, hi, rfl, rfl, k2, v2, f2⟩ X hX
 dsimp only
 refine cond_d (fun hlt => ?_) (fun hge => ?_)
 ·have hi' : i < c.length := by omega
  have hget := shutB_get (c := c) (e := (i : Int)) (by omega) (by omega)
  rw [Int.toNat_natCast] at hget ⊢
  obtain ⟨a, ha, hc⟩ := rd_cell (k := .bool) (e := fun x => x) (hr.mod k2 eB_ne fun _ _ => id) hget
  have hfl := filt_len (c := c) (i := i)
  have hsucc := filt_succ (c := c) (i := i)
  rw [wi_ i (by omega)]
  refine ⟨⟨by omega, hlt⟩, onSome_i ha (ld1_i (k := .bool) (shutB c (i : Int)) hc (cond_i (fun ht => ?_) (fun ht => ?_)))⟩
  ·have ht' : shutB c (i : Int) = true := ht
   rw [if_pos ht'] at hsucc
   refine pushI_i (B := w.heap.size) v2 (by omega) f2 k2.size fun r w5 v5 f5 m5 => ?_
   exact hX _ _ _ (by omega) ⟨i + 1, r, hi', rfl, rfl, k2.fresh m5 fun k e => e, by rw [hsucc]; exact v5, f5⟩
  ·have ht' : shutB c (i : Int) = false := ht
   rw [if_neg (by rw [ht']; simp), List.append_nil] at hsucc
   exact hX _ _ _ (by omega) ⟨i + 1, o, hi', rfl, rfl, k2, by rw [hsucc]; exact v2, f2⟩
 ·have ei : i = c.length := by omega
  subst ei
  exact hQ o _ w2 v2 k2 f2
end Go.Proofs.YtjjgcimlmjnaeaaGreat

namespace Go.Proofs.YtjjgcimlmjnaeaaGreat
open Go Go.Den
structure XsAt (w : World) (x u m : Nat) (U : List Int) : Prop where
 own : Own w x tRShuts [sv ⟨some ⟨u, 0, none⟩, m, m⟩]
 vec : Vec w tInt 1 eI ⟨some ⟨u, 0, none⟩, m, m⟩ U
 len : U.length = m
 ne : x ≠ u
section
variable {w w' : World} {x u m : Nat} {U : List Int}
theorem XsAt.mod {M : Nat → Prop} (h : XsAt w x u m U) (md : Mod M w w') (hx : ¬ M x) (hu : ¬ M u) : XsAt w' x u m U := ⟨h.own.mod md hx, h.vec.mod md fun b hb => by cases hb; exact hu, h.len, h.ne⟩
theorem XsAt.keep (h : XsAt w x u m U) (k : Keep w w') : XsAt w' x u m U := h.mod k id id
theorem XsAt.cell (h : XsAt w x u m U) : w.cell? ((⟨x, 0, none⟩ : Addr).add 0) = some (sv ⟨some ⟨u, 0, none⟩, m, m⟩) := own_at h.own rfl
theorem NewShuts_i {n : Nat} {Q : Option Addr → World → Prop} (hn : n ≤ 512) (hQ : ∀ x u U w', XsAt w' x u n U → Keep w w' → w.heap.size ≤ x → w.heap.size ≤ u → Q (some ⟨x, 0, none⟩) w') : F_ref4_NewShuts (n : Int) w Q := by
 unfold F_ref4_NewShuts
 refine rwithin_i ?_
 rw [decide_eq_true (show (0 : Int) ≤ (n : Int) ∧ (n : Int) ≤ 512 by omega)]
 refine cond_i (fun h => by simp at h) (fun _ => ?_)
 refine make_i elem_sInt (enc := eI) 0 rfl lenI (by omega) (Int.le_refl _) (by omega) (by omega) fun w2 v2 k2 => ?_
 simp only [Int.toNat_natCast] at v2 ⊢
 have hlt : w.heap.size < w2.heap.size := v2.lt rfl
 refine alloc_i fun w3 o3 k3 z3 => ?_
 exact hQ _ _ _ w3 ⟨o3, v2.mod k3 fun _ _ => id, by simp, by omega⟩ (k2.tr k3) (by omega) (Nat.le_refl _)
abbrev maskOf (U : List Int) : List Bool := U.map fun t => t != 0
theorem Mask_i {Q : Sl → World → Prop} (h : XsAt w x u m U) (hm : m ≤ 512) (hQ : ∀ s w', Vec w' tBool 1 eB s (maskOf U) → Keep w w' → (∀ b, s.b = some b → w.heap.size ≤ b.block) → Q s w') : F_rX_Mask (some ⟨x, 0, none⟩) w Q := by
 unfold F_rX_Mask
 refine onSome_i rfl (ld1_i (k := .slice) ⟨some ⟨u, 0, none⟩, m, m⟩ h.cell ?_)
 dsimp only
 refine make_i elem_sBool (enc := eB) false rfl lenB (by omega) (Int.le_refl _) (by omega) (by omega) fun w2 v2 k2 => ?_
 simp only [Int.toNat_natCast] at v2 ⊢
 have hul := h.len
 refine loop_i (fun c t w3 => ∃ (i : Nat), i ≤ m ∧ c = m - i ∧ t = ((i : Int), ()) ∧ Keep w w3 ∧ Vec w3 tBool 1 eB ⟨some ⟨w.heap.size, 0, none⟩, m, m⟩ ((maskOf U).take i ++ List.replicate (m - i) false)) m ⟨0, Nat.zero_le _, rfl, rfl, k2, by simpa using v2⟩ ?_
 rintro c t w3 ⟨i, hi, rfl, rfl, k3, v3⟩ X hX
 dsimp only
 have h3 := h.keep k3
 refine onSome_i rfl (ld1_i (k := .slice) ⟨some ⟨u, 0, none⟩, m, m⟩ h3.cell ?_)
 dsimp only
 refine cond_d (fun hlt => ?_) (fun hge => ?_)
 ·have hi' : i < m := by omega
  have hiU : i < U.length := by omega
  have hget := List.getElem?_eq_getElem hiU
  have htk : (maskOf U).take (i + 1) = (maskOf U).take i ++ [U[i] != 0] := by
   rw [List.take_succ_eq_append_getElem (by simpa using hiU)]; simp
  generalize U[i] = y at *
  obtain ⟨b, hb, cb⟩ := rd_cell (k := .int .i64) (e := fun x => x) (h3.vec.rd lenI) hget
  rw [Int.toNat_natCast]
  refine onSome_i rfl (ld1_i (k := .slice) ⟨some ⟨u, 0, none⟩, m, m⟩ h3.cell ⟨⟨by omega, hlt⟩, onSome_i hb (ld1_i (k := .int .i64) y cb ⟨⟨by omega, hlt⟩, onSome_i rfl ?_⟩)⟩)
  have hlen : ((maskOf U).take i).length = i := by rw [List.length_take, List.length_map]; omega
  refine v3.store lenB rfl (i := i) (by rw [List.length_append, hlen, List.length_replicate]; omega) (y != 0) (v := .bool (y != 0)) rfl size_Bool (oneB _) fun w4 v4 m4 _ => ?_
  have m4' : Mod (fun k => k = w.heap.size) w3 w4 := m4
  rw [wi_ i (by omega)]
  refine hX _ _ _ (by omega) ⟨i + 1, hi', rfl, rfl, k3.fresh m4' fun k e => by rw [show k = w.heap.size from e]; exact Nat.le_refl _, ?_⟩
  have e : ((maskOf U).take i ++ List.replicate (m - i) false).set i (y != 0) = (maskOf U).take (i + 1) ++ List.replicate (m - (i + 1)) false := by
   rw [List.set_append_right _ _ (by omega), hlen, Nat.sub_self, htk, show m - i = (m - (i + 1)) + 1 by omega, List.replicate_succ, List.set_cons_zero, List.append_assoc]; rfl
  rw [e] at v4; exact v4
 ·have ei : i = m := by omega
  subst ei
  rw [List.take_of_length_le (by rw [List.length_map]; omega), Nat.sub_self, List.replicate_zero, List.append_nil] at v3
  exact hQ _ w3 v3 k3 fun b hb => by cases hb; exact Nat.le_refl _
theorem listed_i {s : Sl} {c : List Bool} {Q : Sl → World → Prop} (hr : Rd w s 1 eB c) (hl : c.length ≤ 10000) (hQ : ∀ r w', Vec w' tInt 1 eI r ((ints c.length).filter fun e => shutB c e) → Keep w w' → (∀ b, r.b = some b → w.heap.size ≤ b.block) → Q r w') : F_ref4_listed s w Q := by
 unfold F_ref4_listed
 exact listB_i (Q := fun t w => Q t.1 w) hr hl fun r _ w' v k f => hQ r w' v k f
theorem turnU_i {l : Sl} {es : List Int} {nv : Int} {f : Int → Bool} {Q : Sl → Int → World → Prop} (h : XsAt w x u m U) (hm : m ≤ 512) (hl : Rd w l 1 eI es) (hln : es.length ≤ 1000) (hE : ∀ e ∈ es, 0 ≤ e ∧ e < m) (hlu : ∀ b, l.b = some b → b.block ≠ u)
    (hQ : ∀ r ys U' w', Vec w' tInt 1 eI r ys → ys.length ≤ m → XsAt w' x u m U' → (∀ b, r.b = some b → w.heap.size ≤ b.block) → Mod (fun k => k = u) w w' → Q r 0 w') :
    makeSliceD Tryz.prog tsBool (Value.int .i64 ((m : Nat) : Int)) (Value.int .i64 ((m : Nat) : Int)) w fun (s3 : Sl) w4 =>
      ∀ X2 : (Int × Unit) → World → Prop, (∀ (t2 : Int × Unit) (w5 : World), (
        cond (decide (t2.1 < ((l.l : Nat) : Int)))
        ((0 ≤ t2.1 ∧ t2.1 < ((l.l : Nat) : Int)) ∧ onSome l.b fun a4 => ld1 (.int .i64) w5.drew (a4.add (Int.toNat t2.1 * 1)) fun (x2 : Int) =>
        (0 ≤ t2.1 ∧ t2.1 < ((l.l : Nat) : Int)) ∧ onSome l.b fun a5 => ld1 (.int .i64) w5.drew (a5.add (Int.toNat t2.1 * 1)) fun (x3 : Int) =>
        (0 ≤ x3 ∧ x3 < ((s3.l : Nat) : Int)) ∧ onSome s3.b fun a6 => ld1 .bool w5.drew (a6.add (Int.toNat x3 * 1)) fun (b3 : Bool) =>
        cond b3
        ((0 ≤ x2 ∧ x2 < ((s3.l : Nat) : Int)) ∧ onSome s3.b fun a7 => storeD Tryz.prog tBool (a7.add (Int.toNat x2 * 1)) (Value.bool true) w5.drew fun w6 =>
          onSome (some (⟨x, 0, none⟩ : Addr)) fun a8 => ld1 .slice w6.drew (a8.add 0) fun (s4 : Sl) => (0 ≤ t2.1 ∧ t2.1 < ((l.l : Nat) : Int)) ∧ onSome l.b fun a9 => ld1 (.int .i64) w6.drew (a9.add (Int.toNat t2.1 * 1)) fun (x4 : Int) =>
          (0 ≤ x4 ∧ x4 < ((s4.l : Nat) : Int)) ∧ onSome s4.b fun a10 => storeD Tryz.prog tInt (a10.add (Int.toNat x4 * 1)) (Value.int .i64 nv) w6.drew fun w7 => X2 ((IntKind.wrap .i64 (t2.1 + (1 : Int))), ()) w7)
        (onSome (some (⟨x, 0, none⟩ : Addr)) fun a11 => ld1 .slice w5.drew (a11.add 0) fun (s5 : Sl) => (0 ≤ t2.1 ∧ t2.1 < ((l.l : Nat) : Int)) ∧ onSome l.b fun a12 => ld1 (.int .i64) w5.drew (a12.add (Int.toNat t2.1 * 1)) fun (x5 : Int) =>
          (0 ≤ x5 ∧ x5 < ((s5.l : Nat) : Int)) ∧ onSome s5.b fun a13 => ld1 (.int .i64) w5.drew (a13.add (Int.toNat x5 * 1)) fun (x6 : Int) =>
          (0 ≤ x2 ∧ x2 < ((s3.l : Nat) : Int)) ∧ onSome s3.b fun a14 => storeD Tryz.prog tBool (a14.add (Int.toNat x2 * 1)) (Value.bool (f x6)) w5.drew fun w8 =>
          onSome (some (⟨x, 0, none⟩ : Addr)) fun a15 => ld1 .slice w8.drew (a15.add 0) fun (s6 : Sl) => (0 ≤ t2.1 ∧ t2.1 < ((l.l : Nat) : Int)) ∧ onSome l.b fun a16 => ld1 (.int .i64) w8.drew (a16.add (Int.toNat t2.1 * 1)) fun (x7 : Int) =>
          (0 ≤ x7 ∧ x7 < ((s6.l : Nat) : Int)) ∧ onSome s6.b fun a17 => storeD Tryz.prog tInt (a17.add (Int.toNat x7 * 1)) (Value.int .i64 nv) w8.drew fun w9 => X2 ((IntKind.wrap .i64 (t2.1 + (1 : Int))), ()) w9))
        (F_ref4_listed s3 w5 fun (s7 : Sl) w10 => Q s7 (0 : Int) w10)) → X2 t2 w5) → X2 ((0 : Int), ()) w4 := by
  refine make_i elem_sBool (enc := eB) false rfl lenB (by omega) (Int.le_refl _) (by omega) (by omega) fun w2 v2 k2 => ?_
  simp only [Int.toNat_natCast] at v2 ⊢
  have ll := hl.len
  generalize hfr : w.heap.size = fr at *
  have ult : u < fr := by rw [← hfr]; exact h.vec.lt rfl
  have xlt : x < fr := by rw [← hfr]; exact h.own.lt
  have lit : Vec w2 tBool 1 eB ⟨some ⟨fr, 0, none⟩, m, m⟩ (List.replicate m false) := v2
  refine loop_i (fun c t w3 => ∃ (i : Nat) (U' : List Int) (B : List Bool), i ≤ es.length ∧ c = es.length - i ∧ t = ((i : Int), ()) ∧ Mod (fun k => k = u ∨ fr ≤ k) w w3 ∧ XsAt w3 x u m U' ∧ Vec w3 tBool 1 eB ⟨some ⟨fr, 0, none⟩, m, m⟩ B ∧ B.length = m) es.length
    ⟨0, U, _, Nat.zero_le _, rfl, rfl, k2.wk, h.keep k2, lit, by simp⟩ ?_
  rintro c t w3 ⟨i, U', B, hi, rfl, rfl, m3, h3, v3, hB⟩ X hX
  dsimp only
  refine cond_d (fun hlt => ?_) (fun hge => ?_)
  · have hi' : i < es.length := by omega
    have hget := List.getElem?_eq_getElem hi'
    have hmem := List.getElem_mem hi'
    generalize es[i] = y at *
    obtain ⟨y0, y1⟩ := hE y hmem
    have hrd : ∀ {wx : World}, Mod (fun k => k = u ∨ fr ≤ k) w wx → ∃ b, l.b = some b ∧ wx.cell? (b.add (i * 1)) = some (.int .i64 y) := fun {wx} mx => by
      obtain ⟨b, hb, cb⟩ := rd_cell (k := .int .i64) (e := fun x => x) hl hget
      refine ⟨b, hb, mx.cell cb ?_⟩
      simp only [add_block]
      have := cell_lt cb
      simp only [add_block] at this
      have := hlu b hb
      omega
    have d3 : Keep w3 w3.drew := Mod.drew (Mod.refl _ w3)
    have m3d := m3.tr d3.wk
    have h3d := h3.keep d3
    have v3d := v3.mod d3 fun _ _ => id
    obtain ⟨b, hb, cb⟩ := hrd m3d
    have hBy : B[y.toNat]? = some (shutB B y) := shutB_get y0 (by omega)
    obtain ⟨bb, hbb, cbb⟩ := rd_cell (k := .bool) (e := fun x => x) (v3d.rd lenB) hBy
    rw [Int.toNat_natCast, wi_ i (by omega)]
    have hUl := h3.len
    have wr : ∀ w6, Mod (fun k => k = fr) w3.drew w6 → (∃ B', Vec w6 tBool 1 eB ⟨some ⟨fr, 0, none⟩, m, m⟩ B' ∧ B'.length = m) → onSome (some (⟨x, 0, none⟩ : Addr)) fun a8 => ld1 .slice w6.drew (a8.add 0) fun (s4 : Sl) => (0 ≤ (i : Int) ∧ (i : Int) < ((l.l : Nat) : Int)) ∧ onSome l.b fun a9 => ld1 (.int .i64) w6.drew (a9.add (i * 1)) fun (x4 : Int) =>
          (0 ≤ x4 ∧ x4 < ((s4.l : Nat) : Int)) ∧ onSome s4.b fun a10 => storeD Tryz.prog tInt (a10.add (Int.toNat x4 * 1)) (Value.int .i64 nv) w6.drew fun w7 => X (((i + 1 : Nat) : Int), ()) w7 := by
      intro w6 m6 ⟨B', vB, hB'⟩
      have d6 : Keep w6 w6.drew := Mod.drew (Mod.refl _ w6)
      have m6d := m6.tr d6.wk
      have h6 := (h3d.mod m6 (by omega) (by omega)).keep d6
      have mw6 : Mod (fun k => k = u ∨ fr ≤ k) w w6.drew := m3d.tr (m6d.mono fun k _ e => .inr (by rw [show k = fr from e]; exact Nat.le_refl _))
      obtain ⟨b, hb, cb⟩ := hrd mw6
      refine onSome_i rfl (ld1_i (k := .slice) ⟨some ⟨u, 0, none⟩, m, m⟩ h6.cell ⟨⟨by omega, by omega⟩, onSome_i hb (ld1_i (k := .int .i64) y cb ⟨⟨y0, y1⟩, onSome_i rfl ?_⟩)⟩)
      refine h6.vec.store lenI rfl (i := y.toNat) (by omega) nv (v := .int .i64 nv) rfl size_Int (oneI _) fun w7 v7 m7 _ => ?_
      have m7' : Mod (fun k => k = u) w6.drew w7 := m7
      refine hX _ _ _ (by omega) ⟨i + 1, _, B', hi', rfl, rfl, mw6.tr (m7'.mono fun k _ e => .inl e), ⟨h6.own.mod m7' h.ne, v7, by rw [List.length_set]; exact hUl, h.ne⟩, (vB.mod d6 fun _ _ => id).mod m7' fun b hb e => ?_, hB'⟩
      cases hb
      have e' : fr = u := e
      omega
    refine ⟨⟨by omega, by omega⟩, onSome_i hb (ld1_i (k := .int .i64) y cb ⟨⟨by omega, by omega⟩, onSome_i hb (ld1_i (k := .int .i64) y cb ⟨⟨y0, y1⟩, onSome_i hbb (ld1_i (k := .bool) (shutB B y) cbb ?_)⟩)⟩)⟩
    have st : ∀ (nb : Bool) (K : World → Prop), (∀ w6, Mod (fun k => k = fr) w3.drew w6 → (∃ B', Vec w6 tBool 1 eB ⟨some ⟨fr, 0, none⟩, m, m⟩ B' ∧ B'.length = m) → K w6) → (0 ≤ y ∧ y < ((m : Nat) : Int)) ∧ onSome (some (⟨fr, 0, none⟩ : Addr)) fun a7 => storeD Tryz.prog tBool (a7.add (Int.toNat y * 1)) (Value.bool nb) w3.drew K := fun nb K hK => by
      refine ⟨⟨y0, y1⟩, onSome_i rfl (v3d.store lenB rfl (i := y.toNat) (by omega) nb (v := .bool nb) rfl size_Bool (oneB _) fun w6 v6 m6 _ => hK w6 m6 ⟨_, v6, by rw [List.length_set]; exact hB⟩)⟩
    refine cond_i (fun _ => st true _ wr) (fun _ => ?_)
    have hUy : U'[y.toNat]? = some (U'.getD y.toNat 0) := by
      rw [List.getD_eq_getElem?_getD, List.getElem?_eq_getElem (show y.toNat < U'.length by omega)]; rfl
    obtain ⟨bu, hbu, cbu⟩ := rd_cell (k := .int .i64) (e := fun x => x) (h3d.vec.rd lenI) hUy
    refine onSome_i rfl (ld1_i (k := .slice) ⟨some ⟨u, 0, none⟩, m, m⟩ h3d.cell ⟨⟨by omega, by omega⟩, onSome_i hb (ld1_i (k := .int .i64) y cb ⟨⟨y0, y1⟩, onSome_i hbu (ld1_i (k := .int .i64) _ cbu (st _ _ wr))⟩)⟩)
  · refine listed_i (v3.rd lenB) (by omega) fun r w4 v4 k4 f4 => ?_
    have hfl := filt_len (c := B) (i := B.length)
    have s3 := m3.size
    refine hQ r _ U' w4 v4 (by omega) (h3.keep k4) (fun b hb => by have := f4 b hb; omega) ?_
    refine (m3.tr k4.wk).mono fun k hk h => ?_
    rcases h with h | h
    · exact h
    · omega
theorem allE_i {l : Sl} {es : List Int} {Qb : World → Prop} {Q : (Int × Unit) → World → Prop} (h : XsAt w x u m U) (hm : m ≤ 512) (hl : Rd w l 1 eI es) (hln : es.length ≤ 1000) (hE : ∀ e ∈ es, 0 ≤ e ∧ e < m) (hQ : ∀ i w', Keep w w' → Q (i, ()) w') :
  ∀ X1 : (Int × Unit) → World → Prop, (∀ (t1 : Int × Unit) (w2 : World), (
   cond (decide (t1.1 < ((l.l : Nat) : Int))) ((0 ≤ t1.1 ∧ t1.1 < ((l.l : Nat) : Int)) ∧ onSome l.b fun a1 => ld1 (.int .i64) w2.drew (a1.add (Int.toNat t1.1 * 1)) fun (x1 : Int) => onSome (some (⟨x, 0, none⟩ : Addr)) fun a2 => ld1 .slice w2.drew (a2.add 0) fun (s1 : Sl) =>
    F_ref4_within x1 (0 : Int) (IntKind.wrap .i64 (((s1.l : Nat) : Int) - (1 : Int))) w2.drew fun (b2 : Bool) w3 => cond (!b2) (Qb w3) (X1 ((IntKind.wrap .i64 (t1.1 + (1 : Int))), ()) w3))
   (Q t1 w2)) → X1 t1 w2) → X1 ((0 : Int), ()) w := by
 have ll := hl.len
 refine loop_i (fun c t w3 => ∃ (i : Nat), i ≤ es.length ∧ c = es.length - i ∧ t = ((i : Int), ()) ∧ Keep w w3) es.length ⟨0, Nat.zero_le _, rfl, rfl, Mod.refl _ _⟩ ?_
 rintro c t w3 ⟨i, hi, rfl, rfl, k3⟩ X hX
 dsimp only
 refine cond_d (fun hlt => ?_) (fun hge => hQ _ w3 k3)
 have hi' : i < es.length := by omega
 have hget := List.getElem?_eq_getElem hi'
 have hmem := List.getElem_mem hi'
 generalize es[i] = y at *
 obtain ⟨y0, y1⟩ := hE y hmem
 have d3 := k3.tr (Mod.drew (Mod.refl _ w3))
 obtain ⟨b, hb, cb⟩ := rd_cell (k := .int .i64) (e := fun x => x) (hl.mod d3 eI_ne fun _ _ => id) hget
 rw [Int.toNat_natCast]
 refine ⟨⟨by omega, by omega⟩, onSome_i hb (ld1_i (k := .int .i64) y cb (onSome_i rfl (ld1_i (k := .slice) ⟨some ⟨u, 0, none⟩, m, m⟩ (h.keep d3).cell (rwithin_i ?_))))⟩
 rw [w64 (n := ((m : Nat) : Int) - 1) (by omega) (by omega), decide_eq_true (show (0 : Int) ≤ y ∧ y ≤ (m : Int) - 1 by omega), wi_ i (by omega)]
 exact cond_i (fun h => by simp at h) (fun _ => hX _ _ _ (by omega) ⟨i + 1, hi', rfl, rfl, d3⟩)
theorem Close_i {l : Sl} {es : List Int} {Q : Sl → Int → World → Prop} (h : XsAt w x u m U) (hm : m ≤ 512) (hl : Rd w l 1 eI es) (hln : es.length ≤ 1000) (hE : ∀ e ∈ es, 0 ≤ e ∧ e < m) (hlu : ∀ b, l.b = some b → b.block ≠ u)
  (hQ : ∀ r ys U' w', Vec w' tInt 1 eI r ys → ys.length ≤ m → XsAt w' x u m U' → (∀ b, r.b = some b → w.heap.size ≤ b.block) → Mod (fun k => k = u) w w' → Q r 0 w') : F_rX_Close (some ⟨x, 0, none⟩) 9 l w Q := by
 unfold F_rX_Close
 refine rwithin_i ?_
 rw [decide_eq_true (by decide)]
 refine cond_i (fun h => by simp at h) (fun _ => ?_)
 refine allE_i h hm hl hln hE fun i w2 k2 => ?_
 refine onSome_i rfl (ld1_i (k := .slice) ⟨some ⟨u, 0, none⟩, m, m⟩ (h.keep k2).cell ?_)
 have s2 := k2.size
 exact turnU_i (f := fun x6 => x6 == (0 : Int)) (h.keep k2) hm (hl.mod k2 eI_ne fun _ _ => id) hln hE hlu fun r ys U' w3 v3 hy h3 f3 m3 => hQ r ys U' w3 v3 hy h3 (fun b hb => by have := f3 b hb; omega) (k2.wk.tr m3)
theorem Open_i {l : Sl} {es : List Int} {Q : Sl → Int → World → Prop} (h : XsAt w x u m U) (hm : m ≤ 512) (hl : Rd w l 1 eI es) (hln : es.length ≤ 1000) (hE : ∀ e ∈ es, 0 ≤ e ∧ e < m) (hlu : ∀ b, l.b = some b → b.block ≠ u)
  (hQ : ∀ r ys U' w', Vec w' tInt 1 eI r ys → ys.length ≤ m → XsAt w' x u m U' → (∀ b, r.b = some b → w.heap.size ≤ b.block) → Mod (fun k => k = u) w w' → Q r 0 w') : F_rX_Open (some ⟨x, 0, none⟩) l w Q := by
 unfold F_rX_Open
 refine allE_i h hm hl hln hE fun i w2 k2 => ?_
 refine onSome_i rfl (ld1_i (k := .slice) ⟨some ⟨u, 0, none⟩, m, m⟩ (h.keep k2).cell ?_)
 have s2 := k2.size
 exact turnU_i (f := fun x6 => x6 != (0 : Int)) (h.keep k2) hm (hl.mod k2 eI_ne fun _ _ => id) hln hE hlu fun r ys U' w3 v3 hy h3 f3 m3 => hQ r ys U' w3 v3 hy h3 (fun b hb => by have := f3 b hb; omega) (k2.wk.tr m3)
end
end Go.Proofs.YtjjgcimlmjnaeaaGreat

namespace Go.Proofs.YtjjgcimlmjnaeaaGreat
open Go Go.Den
theorem SesAt.base {F : Nat → Prop} {W0 W1 w : World} {s : Nat} {E : EngS} {G : Gr} {p : Ses} (h : SesAt F W1 w s E G p) (he : EngIs W0 E G) (k : Keep W0 w) (hs : W0.heap.size ≤ s) : SesAt F W0 w s E G p := ⟨he, k, hs, h.own, h.fs⟩
theorem RSesAt.base {F : Nat → Prop} {W0 W1 w : World} {s : Nat} {g : GT} {G : Gr} {p : Ses} (h : RSesAt F W1 w s g G p) (he : GvIs W0 g G) (k : Keep W0 w) (hs : W0.heap.size ≤ s) : RSesAt F W0 w s g G p := ⟨he, h.gok, k, hs, h.own, h.fs⟩
structure Both (w0 w : World) (s r x u : Nat) (E : EngS) (g : GT) (G : Gr) (p : Ses) (U : List Int) : Prop where
 ses : SesAt (fun k => k ≤ s ∨ k = r) w0 w s E G p
 ref : RSesAt (fun k => k ≤ r) w0 w r g G p
 ok : OkS G p
 xs : XsAt w x u G.m U
 ord : w0.heap.size ≤ x ∧ w0.heap.size ≤ u ∧ x < s ∧ u < s ∧ s < r
section
variable {w0 w w' : World} {s r x u : Nat} {E : EngS} {g : GT} {G : Gr} {p : Ses} {U : List Int}
theorem Both.keep (h : Both w0 w s r x u E g G p U) (k : Keep w w') : Both w0 w' s r x u E g G p U := ⟨h.ses.keep k, h.ref.keep k, h.ok, h.xs.keep k, h.ord⟩
theorem Both.lt (h : Both w0 w s r x u E g G p U) : s < w.heap.size ∧ r < w.heap.size := ⟨h.ses.lt, h.ref.lt⟩
theorem rep_i {pos : Int} {K : Sl → Sl → World → Prop} (h : Both w0 w s r x u E g G p U) (hK : ∀ a b (z : Ses × List MsgP) w', Both w0 w' s r x u E g G z.1 U → MsgsIs w' (fun k => w.heap.size ≤ k) a z.2 → MsgsIs w' (fun k => w.heap.size ≤ k) b z.2 → z.2.length ≤ 2 → K a b w') :
  F_rX_Mask (some ⟨x, 0, none⟩) w fun (s16 : Sl) w30 => F_sS_Report (some ⟨s, 0, none⟩) pos s16 w30 fun (s17 : Sl) w31 => F_rX_Mask (some ⟨x, 0, none⟩) w31 fun (s18 : Sl) w32 => F_rS_Report (some ⟨r, 0, none⟩) pos s18 w32 fun (s19 : Sl) w33 => K s17 s19 w33 := by
 have ok := h.ref.gok
 have hm := ok.m1
 obtain ⟨o1, o2, o3, o4, o5⟩ := h.ord
 obtain ⟨slt, rlt⟩ := h.lt
 refine Mask_i h.xs (by omega) fun s1 w1 v1 k1 f1 => ?_
 have z1 := k1.size
 have h1 := h.keep k1
 refine Report_i h1.ses h.ok (v1.rd lenB) (fun b hb e => by have := f1 b hb; omega) (fun k hk => by omega) fun z a w2 hz h2 ok2 q2 l2 m2 => ?_
 have z2 := m2.size
 have r2 := h1.ref.mod m2 fun k hk => ⟨by omega, .inl (by omega), by omega⟩
 have x2 := h1.xs.mod m2 (by omega) (by omega)
 refine Mask_i x2 (by omega) fun s3 w3 v3 k3 f3 => ?_
 have z3 := k3.size
 refine RReport_i (r2.keep k3) h.ok (v3.rd lenB) (fun b hb e => by have := f3 b hb; omega) (fun k hk => by omega) fun z' b w4 hz' h4 ok4 q4 l4 m4 => ?_
 have e := hz'.uniq ok hz
 subst e
 refine hK a b z' w4 ⟨(h2.keep k3).mod m4 fun k hk => ⟨by omega, .inl (by omega), by omega⟩, h4, ok4, (x2.keep k3).mod m4 (by omega) (by omega), h.ord⟩ (((q2.keep k3).mod m4 fun k hk e => by have e' : k = r := e; omega).wk fun k hk _ => by omega) (q4.wk fun k hk _ => by omega) l4
theorem chg_i {sh op : Sl} {ss os : List Int} {K : Sl → Sl → World → Prop} (h : Both w0 w s r x u E g G p U) (hsh : Rd w sh 1 eI ss) (hop : Rd w op 1 eI os) (hsl : ss.length < 1000000) (bs : ∀ b, sh.b = some b → b.block ≠ s) (bo : ∀ b, op.b = some b → b.block ≠ s)
  (hK : ∀ a b (z : Ses × List MsgP) w', Both w0 w' s r x u E g G z.1 U → MsgsIs w' (fun k => w.heap.size ≤ k) a z.2 → MsgsIs w' (fun k => w.heap.size ≤ k) b z.2 → z.2.length ≤ 2 → K a b w') :
  F_rX_Mask (some ⟨x, 0, none⟩) w fun (s16 : Sl) w30 => F_sS_Changed (some ⟨s, 0, none⟩) sh op s16 w30 fun (s17 : Sl) w31 => F_rX_Mask (some ⟨x, 0, none⟩) w31 fun (s18 : Sl) w32 => F_rS_Changed (some ⟨r, 0, none⟩) sh op s18 w32 fun (s19 : Sl) w33 => K s17 s19 w33 := by
 have ok := h.ref.gok
 have hm := ok.m1
 obtain ⟨o1, o2, o3, o4, o5⟩ := h.ord
 obtain ⟨slt, rlt⟩ := h.lt
 refine Mask_i h.xs (by omega) fun s1 w1 v1 k1 f1 => ?_
 have z1 := k1.size
 have h1 := h.keep k1
 have sh1 := hsh.mod k1 eI_ne fun _ _ => id
 have op1 := hop.mod k1 eI_ne fun _ _ => id
 refine Changed_i h1.ses h.ok sh1 hsl op1 (v1.rd lenB) (fun k hk => by omega) fun z a w2 hz h2 ok2 q2 l2 m2 => ?_
 have z2 := m2.size
 have r2 := h1.ref.mod m2 fun k hk => ⟨by omega, .inl (by omega), by omega⟩
 have x2 := h1.xs.mod m2 (by omega) (by omega)
 refine Mask_i x2 (by omega) fun s3 w3 v3 k3 f3 => ?_
 have z3 := k3.size
 refine RChanged_i (r2.keep k3) h.ok ((sh1.mod m2 eI_ne bs).mod k3 eI_ne fun _ _ => id) hsl ((op1.mod m2 eI_ne bo).mod k3 eI_ne fun _ _ => id) (v3.rd lenB) (fun k hk => by omega) fun z' b w4 hz' h4 ok4 q4 l4 m4 => ?_
 have e := hz'.uniq ok hz
 subst e
 refine hK a b z' w4 ⟨(h2.keep k3).mod m4 fun k hk => ⟨by omega, .inl (by omega), by omega⟩, h4, ok4, (x2.keep k3).mod m4 (by omega) (by omega), h.ord⟩ (((q2.keep k3).mod m4 fun k hk e => by have e' : k = r := e; omega).wk fun k hk _ => by omega) (q4.wk fun k hk _ => by omega) l4
end
set_option maxRecDepth 100000 in
theorem SessionActs_i {l acts : Sl} {xs : List Int} {as_ : List ActP} {at_ node : Int} {W : World} {Q : Bool → World → Prop} (hl : Rd W l 1 eI xs) (hac : ActsRd W acts as_) (hQ : ∀ w', Keep W w' → Q true w') : F_law28_SessionActs l at_ node acts W Q := by
 unfold F_law28_SessionActs
 obtain ⟨hA1, hA2⟩ := hac
 have hol := hA1.len
 refine cond_d (fun _ => awake28_i hQ) (fun _ => cond_d (fun _ => awake28_i hQ) (fun hs30 => ?_))
 refine made28_i hl fun g G E w2 hE2 hg2 ok hn k2 => ?_
 refine agg_new (vs := gcs g) size_AGraph rfl (gone1 g) fun w4 o4 k4 z4 => ?_
 have hm := ok.m1
 have hn1 := ok.n1
 have gl : g.2.1.l = G.m := hg2.ed.len
 have gn : g.1.l = G.n := hg2.nd.len
 refine cond_i (fun h => by simp at h) (fun _ => ?_)
 have d4 : Keep w4 w4.drew := Mod.drew (Mod.refl _ w4)
 have o0 := o4.mod d4 id
 have hE := (hE2.keep k4).keep d4
 have hg := (hg2.keep k4).keep d4
 have k0 := (k2.tr k4).tr d4
 have zA := k2.size
 have aA : w2.heap.size < w4.drew.heap.size := o0.lt
 generalize w4.drew = w0 at *
 generalize w2.heap.size = A at *
 refine ld1_i (k := .slice) g.2.1 (own3 o0).2.1 (ld1_i (k := .slice) g.1 (own3 o0).1 ?_)
 rw [gl, gn, w64 (n := (G.m : Int) + 1) (by omega) (by omega), w64 (n := (G.n : Int) + 1) (by omega) (by omega)]
 refine Round_i (by omega) (by omega) ⟨by rw [← gn]; exact (own3 o0).1, Round_i (by omega) (by omega) ?_⟩
 refine ld1_i (k := .slice) g.2.1 (own3 o0).2.1 ?_
 rw [gl]
 refine NewShuts_i (by omega) fun x u U w5 hX5 k5 fx fu => ?_
 refine Mask_i hX5 (by omega) fun s4 w6 v6 k6 f6 => ?_
 have K6 := k5.tr k6
 have hX6 := hX5.keep k6
 have xlt := hX6.own.lt
 have ult : u < w6.heap.size := hX6.vec.lt rfl
 generalize at_ % ((G.m : Int) + 1) = a at *
 generalize node % ((G.n : Int) + 1) = v at *
 have z6 := K6.size
 refine SNew_i (hE.keep K6) (c := maskOf U) (v6.rd lenB) (fun hb => ?_) fun ha hv z ms w7 hz h7 ok7 q7 l7 k7 => ?_
 ·have d6 := K6.tr (Mod.drew (Mod.refl _ w6))
  refine ldN_i (l := [.slice, .slice, .slice]) g (own_g (g := g) (o0.mod d6 id)) ?_
  refine Mask_i (hX6.keep (Mod.drew (Mod.refl _ w6))) (by omega) fun s8 w8 v8 k8 f8 => ?_
  have K8 := d6.tr k8
  refine ⟨own_g (g := g) (o0.mod K8 id), ?_⟩
  refine RSNew_i (hg.keep K8) ok (v8.rd lenB) (fun _ w9 k9 => ?_) (fun h1 h2 => absurd ⟨h1, h2⟩ hb)
  refine cond_i (fun h => by simp at h) (fun _ => cond_i (fun h => by simp at h) (fun _ => ?_))
  refine alike28_i (P := fun _ => True) (P' := fun _ => True) MsgsIs.nil MsgsIs.nil (by simp) fun w10 k10 => cond_i (fun h => by simp at h) (fun _ => ?_)
  refine cond_i (fun _ => cond_i (fun _ => ?_) (fun h => by simp at h)) (fun h => by simp at h)
  exact awake28_i fun w' k' => hQ w' ((((k0.tr K8).tr k9).tr k10).tr k')
 have d7 : Keep w7 w7.drew := Mod.drew (Mod.refl _ w7)
 have K7 := (K6.tr k7).tr d7
 generalize hse : w6.heap.size = s at *
 have s7 := h7.lt
 refine ldN_i (l := [.slice, .slice, .slice]) g (own_g (g := g) (o0.mod K7 id)) ?_
 have hX7 := (hX6.keep k7).keep d7
 refine Mask_i hX7 (by omega) fun s8 w8 v8 k8 f8 => ?_
 have K8 := K7.tr k8
 refine ⟨own_g (g := g) (o0.mod K8 id), ?_⟩
 refine RSNew_i (hg.keep K8) ok (v8.rd lenB) (fun hb _ _ => absurd ⟨ha, hv⟩ hb) fun _ _ r z' ms' w9 hr hz' h9 ok9 q9 l9 k9 => ?_
 have e := hz'.uniq ok hz
 subst e
 have K9 := K8.tr k9
 have z8 := k8.size
 have e7 : w7.drew.heap.size = w7.heap.size := rfl
 have k79 := (d7.tr k8).tr k9
 have B9 : Both w0 w9 s r x u E g G z'.1 U := by
  refine ⟨((h7.base (hE) (K6.tr k7) (by omega)).more (fun k hk => hk.elim .inl fun e => .inr (by omega)) (.inl (Nat.le_refl _))).keep k79, h9.base hg K9 (by omega), ok9, (hX7.keep k8).keep k9, by omega⟩
 refine cond_i (fun h => by simp at h) (fun _ => cond_i (fun h => by simp at h) (fun _ => ?_))
 refine alike28_i (q7.keep k79) q9 (by simp; omega) fun w10 k10 => cond_i (fun h => by simp at h) (fun _ => cond_i (fun h => by simp at h) (fun _ => ?_))
 have B10 := B9.keep k10
 clear B9 h9 h7 q7 q9 hz hz' ok7 ok9 hX5 hX6 hX7 v6 v8
 refine loop_i (fun cc t w11 => ∃ (i : Nat) (p : Ses) (U : List Int), i ≤ as_.length ∧ cc = as_.length - i ∧ t = ((i : Int), ()) ∧ Both w0 w11 s r x u E g G p U) as_.length ⟨0, z'.1, U, Nat.zero_le _, rfl, rfl, B10⟩ ?_
 clear B10
 rintro cc t w11 ⟨i, p, U, hi, rfl, rfl, B⟩ X hX
 dsimp only
 have KW : ∀ {wx : World} {p : Ses} {U : List Int}, Both w0 wx s r x u E g G p U → Keep W wx := fun h => k0.tr h.ses.k0
 have oA : ∀ {wx : World} {p : Ses} {U : List Int}, Both w0 wx s r x u E g G p U → Own wx A tAGraph (gcs g) := fun h => o0.mod h.ses.k0 id
 obtain ⟨b1, b2, b3, b4, b5⟩ := B.ord
 refine cond_d (fun hlt => ?_) (fun hge => awake28_i fun w' k' => hQ w' ((KW B).tr k'))
 have hi' : i < as_.length := by omega
 have hget := List.getElem?_eq_getElem hi'
 have hmem := List.getElem_mem hi'
 generalize as_[i] = c at *
 have kb : Keep W w11 := KW B
 obtain ⟨ba, hba, hha⟩ := (hA1.mod (F := fun _ => False) kb (fun x => by simp) fun _ _ => id).get i c hget
 rw [Int.toNat_natCast]
 refine ⟨⟨by omega, by omega⟩, onSome_i hba (ldN_i (l := [.int .i64, .int .i64, .slice]) (c.k, c.n, c.s, ()) hha ?_)⟩
 refine agg_new (vs := eAct c) size_Act rfl (by simp [Value.oneCell']) fun w12 oc k12 z12 => ?_
 have oc' : ∀ {wx : World}, Keep w12 wx → Own wx w11.heap.size tAct [.int .i64 c.k, .int .i64 c.n, sv c.s] := fun kx => oc.mod kx id
 have B12 := B.keep k12
 have hcs := hA2 c hmem
 have csl := hcs.len
 refine ld1_i (k := .slice) c.s (own3 (oc' (Mod.refl _ _))).2.2 (cond_d (fun _ => awake28_i fun w' k' => hQ w' ((KW B12).tr k')) (fun h20 => ?_))
 have lt12 := B12.lt
 refine loop_i (fun cc t w13 => ∃ (j : Nat) (o : Sl) (zs : List Int), j ≤ c.l.length ∧ cc = c.l.length - j ∧ t = (o, (j : Int), ()) ∧ Keep w12 w13 ∧ Vec w13 tInt 1 eI o zs ∧ zs.length = j ∧ (∀ e ∈ zs, 0 ≤ e ∧ e < G.m) ∧ (∀ b, o.b = some b → w12.heap.size ≤ b.block)) c.l.length
  ⟨0, ⟨none, 0, 0⟩, [], Nat.zero_le _, rfl, rfl, Mod.refl _ _, Vec.nil _ _ _ _, rfl, by simp, fun b hb => by cases hb⟩ ?_
 rintro cc t w13 ⟨j, o, zs, hj, rfl, rfl, k13, vz, hzl, hzE, fz⟩ Y hY
 dsimp only
 have B13 := B12.keep k13
 refine ld1_i (k := .slice) c.s (own3 (oc' k13)).2.2 (cond_d (fun hlt2 => ?_) (fun hge2 => ?_))
 ·have hj' : j < c.l.length := by omega
  have hgj := List.getElem?_eq_getElem hj'
  generalize c.l[j] = y at *
  have d13 := k13.tr (Mod.drew (Mod.refl _ w13))
  have B13d := B12.keep d13
  obtain ⟨b, hb, cb⟩ := rd_cell (k := .int .i64) (e := fun x => x) (hcs.mod (F := fun _ => False) (KW B13d) eI_ne fun _ _ => id) hgj
  rw [Int.toNat_natCast]
  refine ld1_i (k := .slice) c.s (own3 (oc' d13)).2.2 ⟨⟨by omega, by omega⟩, onSome_i hb (ld1_i (k := .int .i64) y cb (ld1_i (k := .slice) g.2.1 (own3 (oA B13d)).2.1 ?_))⟩
  rw [gl]
  refine Round_i (by omega) (by omega) ?_
  refine pushI_i (B := w12.heap.size) (vz.mod (F := fun _ => False) (Mod.drew (Mod.refl _ w13)) fun _ _ => id) (by omega) fz d13.size fun r' w14 v14 f14 m14 => ?_
  rw [wi_ j (by omega)]
  refine hY _ _ _ (by omega) ⟨j + 1, r', _, hj', rfl, rfl, d13.fresh m14 fun k e => e, v14, by simp [hzl], fun e he => ?_, f14⟩
  rcases List.mem_append.1 he with he | he
  ·exact hzE e he
  ·have : e = y % (G.m : Int) := by simpa using he
   rw [this]; exact ⟨Int.emod_nonneg _ (by omega), Int.emod_lt_of_pos _ (by omega)⟩
 clear hY
 have hzn : zs.length ≤ 1000 := by omega
 have lt13 := B13.lt
 have z13 := k13.size
 intro J1 hJ1
 have j1 : ∀ a b (z : Ses × List MsgP) w15 U', Both w0 w15 s r x u E g G z.1 U' → MsgsIs w15 (fun k => w13.heap.size ≤ k) a z.2 → MsgsIs w15 (fun k => w13.heap.size ≤ k) b z.2 → z.2.length ≤ 2 → J1 (a, b, ()) w15 := by
  intro a b z w15 U' B15 qa qb hz2
  apply hJ1
  have wl := B15.ok.len
  refine Left_i B15.ses B15.ok.len B15.ok.none fun s13 w16 v16 k16 f16 => ?_
  have d16 := k16.tr (Mod.drew (Mod.refl _ w16))
  refine alike28_i (qa.keep d16) (qb.keep d16) (by omega) fun w17 k17 => cond_i (fun h => by simp at h) (fun _ => ?_)
  have K17 := d16.tr k17
  have B17 := B15.keep K17
  have v17 := ((v16.mod (F := fun _ => False) (Mod.drew (Mod.refl _ w16)) fun _ _ => id).mod k17 fun _ _ => id)
  obtain ⟨sl, _, hrd, _, _, _, c3, c4, c5, c6, c7⟩ := B17.ref.cell
  refine onSome_i rfl (ld1_i (k := .int .i64) z.1.pos c3 (At_i B17.ses ⟨c3, cond_i (fun h => by simp at h) (fun _ => ?_)⟩))
  refine onSome_i rfl (ld1_i (k := .bool) z.1.over c7 (Done_i B17.ses ⟨c7, cond_i (fun h => by simp at h) (fun _ => ?_)⟩))
  refine onSome_i rfl (ld1_i (k := .bool) z.1.has c6 (cond_i (fun h => by simp at h) (fun _ => ?_)))
  refine onSome_i rfl (ld1_i (k := .slice) sl c5 ?_)
  refine Ints_i (v17.rd lenI) hrd (by omega) fun rr w18 k18 hr => cond_i (fun h => by rw [hr.2 rfl] at h; cases h) (fun _ => ?_)
  rw [wi_ i (by omega)]
  exact hX _ _ _ (by omega) ⟨i + 1, z.1, U', hi', rfl, rfl, B17.keep k18⟩
 have o13 := own3 (oc' k13)
 refine ld1_i (k := .int .i64) c.k o13.1 (cond_i (fun _ => ?_) (fun _ => cond_i (fun _ => ?_) (fun _ => cond_i (fun _ => ?_) (fun _ => ?_))))
 ·refine ld1_i (k := .int .i64) c.n o13.2.1 (ld1_i (k := .slice) g.2.1 (own3 (oA B13)).2.1 ?_)
  rw [gl, w64 (n := (G.m : Int) + 2) (by omega) (by omega)]
  refine Round_i (by omega) (by omega) ?_
  exact rep_i B13 fun a b z w' Bz qa qb hl => j1 a b z w' U Bz qa qb hl
 ·refine Close_i B13.xs (by omega) (vz.rd lenI) hzn hzE (fun b hb e => by have := fz b hb; omega) fun y ys U' w14 v14 hyl hX14 f14 m14 => ?_
  have s14 := m14.size
  have B14 : Both w0 w14 s r x u E g G p U' := ⟨B13.ses.mod m14 fun k hk => ⟨by omega, .inl (.inl (by omega)), by omega⟩, B13.ref.mod m14 fun k hk => ⟨by omega, .inl (by omega), by omega⟩, B13.ok, hX14, B13.ord⟩
  exact chg_i B14 (v14.rd lenI) (Rd.nil _ _ _) (by omega) (fun b hb e => by have := f14 b hb; omega) (fun b hb => by cases hb) fun a b z w' Bz qa qb hl => j1 a b z w' U' Bz (qa.wk fun k hk _ => by omega) (qb.wk fun k hk _ => by omega) hl
 ·refine Open_i B13.xs (by omega) (vz.rd lenI) hzn hzE (fun b hb e => by have := fz b hb; omega) fun y ys U' w14 v14 hyl hX14 f14 m14 => ?_
  have s14 := m14.size
  have B14 : Both w0 w14 s r x u E g G p U' := ⟨B13.ses.mod m14 fun k hk => ⟨by omega, .inl (.inl (by omega)), by omega⟩, B13.ref.mod m14 fun k hk => ⟨by omega, .inl (by omega), by omega⟩, B13.ok, hX14, B13.ord⟩
  exact chg_i B14 (Rd.nil _ _ _) (v14.rd lenI) (by simp) (fun b hb => by cases hb) (fun b hb e => by have := f14 b hb; omega) fun a b z w' Bz qa qb hl => j1 a b z w' U' Bz (qa.wk fun k hk _ => by omega) (qb.wk fun k hk _ => by omega) hl
 ·obtain ⟨sl, _, hrd, _, _, _, c3, _, c5, _⟩ := B13.ref.cell
  have sll := hrd.len
  refine onSome_i rfl (ld1_i (k := .int .i64) p.pos c3 (onSome_i rfl (ld1_i (k := .slice) sl c5 (cond_d (fun hlt3 => ?_) (fun _ => rep_i B13 fun a b z w' Bz qa qb hl => j1 a b z w' U Bz qa qb hl)))))
  have h0 : 0 < p.way.length := by omega
  obtain ⟨bb, hbb, cbb⟩ := rd_cell (k := .int .i64) (e := fun x => x) hrd (List.getElem?_eq_getElem h0)
  exact onSome_i rfl (ld1_i (k := .slice) sl c5 ⟨⟨by omega, by omega⟩, onSome_i hbb (ld1_i (k := .int .i64) _ cbb (rep_i B13 fun a b z w' Bz qa qb hl => j1 a b z w' U Bz qa qb hl))⟩)
end Go.Proofs.YtjjgcimlmjnaeaaGreat
