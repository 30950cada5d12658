/-
  The program's engine: the way.
-/
import Derived.Test.YtljiijljeipdhaaGreatQ5
import Derived.Test.YtljiijljeipdhaaGreatFWay
import Derived.Test.YtljiijljeipdhaaGreatQ4
import Derived.Test.YtljiijljeipdhaaGreatQ3
import Derived.Test.YtljiijljeipdhaaGreatA3
import Derived.Test.YtljiijljeipdhaaGreatFUnp
import Derived.Test.YtljiijljeipdhaaGreatFTow
import Derived.Test.YtljiijljeipdhaaGreatA4
namespace Go.Proofs.YtljiijljeipdhaaGreat
open Go Go.Den

theorem IndexI_i {s : Sl} {xs : List Int} {f : Value} {p : Int → Bool} {w : World} {Q : Int → World → Prop} {C : World → Prop} (hs : Rd w s 1 eI xs) (hl : xs.length < 1000000) (hC : C w) (hCk : ∀ w1 w2, C w1 → Keep w1 w2 → C w2)
    (hf : ∀ x w1 (K : Value → World → Prop), C w1 → x ∈ xs → (∀ w2, Keep w1 w2 → K (.bool (p x)) w2) → callV Tryz.prog f [.int .i64 x] w1 K)
    (hQ : ∀ i w', Keep w w' → (0 ≤ i ↔ ∃ x ∈ xs, p x = true) → Q i w') : F_slices_IndexFunc_sint_int s f w Q := by
  unfold F_slices_IndexFunc_sint_int
  have sl := hs.len
  refine loop_i (fun c t w1 => ∃ (i : Nat), i ≤ xs.length ∧ c = xs.length - i ∧ t = ((i : Int), ()) ∧ Keep w w1 ∧ ∀ x ∈ xs.take i, p x = false) xs.length ⟨0, Nat.zero_le _, rfl, rfl, Mod.refl _ _, by simp⟩ ?_
  rintro c t w1 ⟨i, hi, rfl, rfl, k1, hn⟩ X hX
  dsimp only
  refine cond_d (fun hlt => ?_) (fun hge => ?_)
  · have hi' : i < xs.length := by omega
    have hget := List.getElem?_eq_getElem hi'
    have hmem := List.getElem_mem hi'
    have htk := List.take_succ_eq_append_getElem hi'
    generalize xs[i] = x at *
    obtain ⟨q, hq, hc⟩ := rd_cell (k := .int .i64) (e := fun x => x) (hs.mod k1 eI_ne fun _ _ => id) hget
    rw [Int.toNat_natCast]
    refine ⟨⟨by omega, hlt⟩, onSome_i hq (ld1_i (k := .int .i64) x hc ?_)⟩
    refine hf x w1 _ (hCk _ _ hC k1) hmem fun w2 k2 => ⟨p x, rfl, ?_⟩
    refine cond_i (fun hp => hQ _ w2 (k1.tr k2) ⟨fun _ => ⟨x, hmem, hp⟩, fun _ => by omega⟩) (fun hp => ?_)
    rw [wi_ i (by omega)]
    refine hX _ _ _ (by omega) ⟨i + 1, hi', rfl, rfl, k1.tr k2, fun y hy => ?_⟩
    rw [htk] at hy
    rcases List.mem_append.1 hy with hy | hy
    · exact hn y hy
    · have : y = x := by simpa using hy
      rw [this]; exact hp
  · have ei : i = xs.length := by omega
    subst ei
    rw [List.take_length] at hn
    exact hQ (-1) w1 k1 ⟨fun h => by omega, fun ⟨x, hx, hp⟩ => by rw [hn x hx] at hp; cases hp⟩
theorem ContainsI_i {s : Sl} {xs : List Int} {f : Value} {p : Int → Bool} {w : World} {Q : Bool → World → Prop} {C : World → Prop} (hs : Rd w s 1 eI xs) (hl : xs.length < 1000000) (hC : C w) (hCk : ∀ w1 w2, C w1 → Keep w1 w2 → C w2)
    (hf : ∀ x w1 (K : Value → World → Prop), C w1 → x ∈ xs → (∀ w2, Keep w1 w2 → K (.bool (p x)) w2) → callV Tryz.prog f [.int .i64 x] w1 K)
    (hQ : ∀ b w', Keep w w' → (b = true ↔ ∃ x ∈ xs, p x = true) → Q b w') : F_slices_ContainsFunc_sint_int s f w Q := by
  unfold F_slices_ContainsFunc_sint_int
  exact IndexI_i hs hl hC hCk hf fun i w' k hi => hQ _ w' k (by rw [← hi]; simp)

abbrev AT := Sl × Int × Bool × Bool × Unit
abbrev eAns (a : AT) : List Value := [sv a.1, .int .i64 a.2.1, .bool a.2.2.1, .bool a.2.2.2.1]
theorem oneAns (a : AT) : ∀ u ∈ eAns a, u.oneCell' = true := by intro u hu; simp at hu; rcases hu with rfl | rfl | rfl | rfl <;> rfl
theorem own_ans {w : World} {b : Nat} {e : TypeId} {a : AT} (h : Own w b e (eAns a)) : HoldsAt w ⟨b, 0, none⟩ 0 (encs [.slice, .int .i64, .bool, .bool] a) := own_all h
theorem own4 {w : World} {g : Nat} {e : TypeId} {x y z u : Value} (h : Own w g e [x, y, z, u]) : w.cell? ((⟨g, 0, none⟩ : Addr).add 0) = some x ∧ w.cell? ((⟨g, 0, none⟩ : Addr).add 1) = some y ∧ w.cell? ((⟨g, 0, none⟩ : Addr).add 2) = some z ∧ w.cell? ((⟨g, 0, none⟩ : Addr).add 3) = some u := by
  refine ⟨?_, ?_, ?_, ?_⟩ <;> rw [addr_lit, h.cell] <;> rfl
/-- An answer is read, written to its own place, and handed on. -/
theorem ansEnd {T : TypeId} {w : World} {b : Nat} {a : AT} {Q : AT → World → Prop} (hT : (Tryz.prog.info? T).map (·.size) = some 4) (h : Own w b T (eAns a)) (hQ : ∀ w', Own w' b T (eAns a) → Mod (fun k => k = b) w w' → Q a w') :
    ldN [.slice, .int .i64, .bool, .bool] w ⟨b, 0, none⟩ fun (t1 : AT) => storeD Tryz.prog T ⟨b, 0, none⟩ (Value.agg #[(Value.slice t1.1.b t1.1.l t1.1.c), (Value.int .i64 t1.2.1), (Value.bool t1.2.2.1), (Value.bool t1.2.2.2.1)]) w fun w3 =>
      ldN [.slice, .int .i64, .bool, .bool] w3 ⟨b, 0, none⟩ fun (t2 : AT) => Q (t2.1, t2.2.1, t2.2.2.1, t2.2.2.2.1, ()) w3 := by
  refine ldN_i (l := [.slice, .int .i64, .bool, .bool]) a (own_ans h) ?_
  refine agg_store (vs := eAns a) h hT rfl (oneAns a) fun w3 o3 m3 _ => ?_
  exact ldN_i (l := [.slice, .int .i64, .bool, .bool]) a (own_ans o3) (hQ w3 o3 m3)

theorem Way_i {E : EngS} {G : Gr} {at_ node : Int} {closed : Sl} {c : List Bool} {W : World} {Q : AT → World → Prop} (h : EngIs W E G) (hc : Rd W closed 1 eB c)
    (hQ : ∀ s wt f r l w', G.AnsIs node at_ c l wt f r → Vec w' tInt 1 eI s l → (∀ x ∈ l, G.isE x) → l.length ≤ 51 → Keep W w' → (∀ b, s.b = some b → W.heap.size ≤ b.block) → Q (s, wt, f, r, ()) w') : F_engine_Engine_Way (some ⟨E.e, 0, none⟩) at_ node closed W Q := by
  unfold F_engine_Engine_Way
  have ok := h.tur.gra.ok
  have hm := ok.m1
  refine alloc_i fun w1 o1 k1 z1 => alloc_i fun w2 o2 k2 z2 => ?_
  have K2 := k1.tr k2
  have hW1 : W.heap.size < w1.heap.size := by omega
  have o2' : Own w2 w1.heap.size tAns (eAns (⟨none, 0, 0⟩, 0, false, false, ())) := o2
  have fin : ∀ w3, Keep w2 w3 → ¬ G.isN node → ldN [.slice, .int .i64, .bool, .bool] w3 ⟨w1.heap.size, 0, none⟩ fun (t1 : AT) => storeD Tryz.prog tAns ⟨w1.heap.size, 0, none⟩ (Value.agg #[(Value.slice t1.1.b t1.1.l t1.1.c), (Value.int .i64 t1.2.1), (Value.bool t1.2.2.1), (Value.bool t1.2.2.2.1)]) w3 fun w4 =>
      ldN [.slice, .int .i64, .bool, .bool] w4 ⟨w1.heap.size, 0, none⟩ fun (t2 : AT) => Q (t2.1, t2.2.1, t2.2.2.1, t2.2.2.2.1, ()) w4 := fun w3 k3 hn => by
    refine ansEnd size_Ans (o2'.mod k3 id) fun w4 _ m4 => hQ _ _ _ _ [] w4 (.no fun d hv => absurd hv hn) (Vec.nil _ _ _ _) (by simp) (by simp) ((K2.tr k3).fresh m4 fun k e => by rw [show k = w1.heap.size from e]; omega) fun b hb => by cases hb
  refine cond_i (fun h => by simp at h) (fun _ => cond_d (fun hn => fin w2 (Mod.refl _ _) fun hv => by omega) (fun hn0 => ?_))
  have h2 := h.keep K2
  refine onSome_i rfl (ld1_i (k := .ptr) (some ⟨E.t.t, 0, none⟩) h2.cells.1 (onSome_i rfl (ld1_i (k := .ptr) (some ⟨E.t.H.g, 0, none⟩) h2.tur.cells.1 (Nodes_i h2.tur.gra ?_))))
  refine cond_d (fun hn => fin w2 (Mod.refl _ _) fun hv => by omega) (fun hn1 => ?_)
  have hN : G.isN node := ⟨by omega, by omega⟩
  have d2 : Keep w2 w2.drew := Mod.drew (Mod.refl _ w2)
  have hd2 := h2.keep d2
  refine onSome_i rfl (ld1_i (k := .ptr) (some ⟨E.t.t, 0, none⟩) hd2.cells.1 ?_)
  refine far_i hd2 fun s1 d0 w7 hd0 v7 k7 f7 b7 => ?_
  have k27 := d2.tr k7
  have h7 := h2.keep k27
  refine ⟨h7.cells.1, ?_⟩
  have hb7 : ∀ (v : Nat) x, d0[v]? = some x → -1 ≤ x ∧ x ≤ 102 * BW := b7
  -- behind the first way
  have rest : ∀ w8 s2 b1 l0, Vec w8 tInt 1 eI s2 l0 → (∀ b, s2.b = some b → w7.heap.size ≤ b.block) → Keep w7 w8 → ((b1 = false ∧ l0 = [] ∧ ∀ d, ¬ G.gw [] node at_ d) ∨ (b1 = true ∧ G.isE at_ ∧ G.LWay [] d0 at_ l0)) →
      (storeD Tryz.prog tsInt ((⟨w1.heap.size, 0, none⟩ : Addr).add 0) (Value.slice s2.b s2.l s2.c) w8 fun w9 => storeD Tryz.prog tBool ((⟨w1.heap.size, 0, none⟩ : Addr).add 2) (Value.bool b1) w9 fun w10 =>
        ∀ J1 : (Unit) → World → Prop, (∀ (t7 : Unit) (w11 : World), (onSome (some ⟨E.e, 0, none⟩) fun a6 => ld1 .ptr w11.drew (a6.add 0) fun (p4 : Option Addr) => ld1 .slice w11.drew ((⟨w1.heap.size, 0, none⟩ : Addr).add 0) fun (s3 : Sl) => F_walk_Weight p4 s3 w11.drew fun (x2 : Int) (_ : Bool) w12 =>
          storeD Tryz.prog tInt ((⟨w1.heap.size, 0, none⟩ : Addr).add 1) (Value.int .i64 x2) w12 fun w13 => ldN [.slice, .int .i64, .bool, .bool] w13 ⟨w1.heap.size, 0, none⟩ fun (t8 : AT) => storeD Tryz.prog tAns ⟨w1.heap.size, 0, none⟩ (Value.agg #[(Value.slice t8.1.b t8.1.l t8.1.c), (Value.int .i64 t8.2.1), (Value.bool t8.2.2.1), (Value.bool t8.2.2.2.1)]) w13 fun w14 =>
          ldN [.slice, .int .i64, .bool, .bool] w14 ⟨w1.heap.size, 0, none⟩ fun (t9 : AT) => Q (t9.1, t9.2.1, t9.2.2.1, t9.2.2.2.1, ()) w14) → J1 t7 w11) →
        ld1 .slice w10 ((⟨w1.heap.size, 0, none⟩ : Addr).add 0) fun (s4 : Sl) => F_slices_ContainsFunc_sint_int s4 (Value.func (.func fn_engine_Engine_Way_c1) #[] #[(Value.pointer (some ⟨W.heap.size, 0, none⟩))]) w10 fun (b3 : Bool) w15 =>
        cond b3 (onSome (some ⟨E.e, 0, none⟩) fun a7 => ld1 .ptr w15.drew (a7.add 0) fun (p5 : Option Addr) => onSome (some ⟨E.e, 0, none⟩) fun a8 => ld1 .ptr w15.drew (a8.add 0) fun (p6 : Option Addr) => ld1 .slice w15.drew ⟨W.heap.size, 0, none⟩ fun (s5 : Sl) => ld1 .slice w15.drew ⟨W.heap.size, 0, none⟩ fun (s6 : Sl) =>
          F_dist_To p6 node s5 w15.drew fun (s7 : Sl) w16 => w16.cell? ⟨W.heap.size, 0, none⟩ = some (Value.slice s6.b s6.l s6.c) ∧ w16.cell? (a7.add 0) = some (Value.pointer p5) ∧ F_least_Along p5 at_ s7 s6 w16 fun (s8 : Sl) (b4 : Bool) w17 =>
          storeD Tryz.prog tsInt ((⟨w1.heap.size, 0, none⟩ : Addr).add 0) (Value.slice s8.b s8.l s8.c) w17 fun w18 => storeD Tryz.prog tBool ((⟨w1.heap.size, 0, none⟩ : Addr).add 2) (Value.bool b4) w18 fun w19 => ld1 .bool w19 ((⟨w1.heap.size, 0, none⟩ : Addr).add 2) fun (b5 : Bool) =>
          storeD Tryz.prog tBool ((⟨w1.heap.size, 0, none⟩ : Addr).add 3) (Value.bool b5) w19 fun w20 => J1 (()) w20) (J1 (()) w15)) := by
    intro w8 s2 b1 l0 v8 f8 k8 hcase
    have lit : ∀ k, ((⟨w1.heap.size, 0, none⟩ : Addr).add k) = ⟨w1.heap.size, k, none⟩ := fun k => by rw [addr_lit, Nat.zero_add]
    have z27 := k27.size
    have o8 := (o2'.mod k27 id).mod k8 id
    have K8 := K2.tr (k27.tr k8)
    rw [lit 0, lit 1, lit 2, lit 3]
    refine storeD1_i (o := 0) (v := sv s2) o8 size_sInt (by simp) rfl rfl fun w9 o9 m9 z9 => ?_
    refine storeD1_i (o := 2) (v := .bool b1) o9 size_Bool (by simp) rfl rfl fun w10 o10 m10 z10 => ?_
    have o10' : Own w10 w1.heap.size tAns (eAns (s2, 0, b1, false, ())) := o10
    have up : ∀ {wx wy : World}, Keep W wx → Mod (fun k => k = w1.heap.size) wx wy → Keep W wy := fun kx m => kx.fresh m fun k e => by rw [show k = w1.heap.size from e]; omega
    have K10 := up (up K8 m9) m10
    have nb : ∀ b, s2.b = some b → b.block ≠ w1.heap.size := fun b hb => by have := f8 b hb; omega
    have v10 := (v8.mod m9 fun b hb e => nb b hb e).mod m10 fun b hb e => nb b hb e
    have oc : ∀ {wx : World}, Keep w1 wx → wx.cell? ⟨W.heap.size, 0, none⟩ = some (sv closed) := fun kx => by
      have := (o1.mod kx id)
      rw [this.cell]; rfl
    have k1up : ∀ {wx wy : World}, Keep w1 wx → Mod (fun k => k = w1.heap.size) wx wy → Keep w1 wy := fun kx m => kx.fresh m fun k e => by rw [show k = w1.heap.size from e]; exact Nat.le_refl _
    have k1_10 := k1up (k1up (k2.tr (k27.tr k8)) m9) m10
    intro J hJ
    have core : ∀ w11 s l f r, Own w11 w1.heap.size tAns (eAns (s, 0, f, r, ())) → Vec w11 tInt 1 eI s l → (∀ x ∈ l, G.isE x) → l.length ≤ 51 → G.AnsIs node at_ c l (G.wsum l) f r → Keep W w11 → (∀ b, s.b = some b → W.heap.size ≤ b.block ∧ b.block ≠ w1.heap.size) → J () w11 := by
      intro w11 s l f r o11 v11 hE hl hA K11 hf
      apply hJ
      have d11 : Keep w11 w11.drew := Mod.drew (Mod.refl _ w11)
      have h11 := h.keep (K11.tr d11)
      have od := o11.mod d11 id
      refine onSome_i rfl (ld1_i (k := .ptr) (some ⟨E.t.t, 0, none⟩) h11.cells.1 ?_)
      have c0 := (own4 od).1
      rw [lit 0] at c0
      refine ld1_i (k := .slice) s c0 ?_
      refine Weight_i h11.tur ((v11.mod d11 fun _ _ => id).rd lenI) (by omega) hE fun w12 k12 => ?_
      refine storeD1_i (o := 1) (v := .int .i64 (G.wsum l)) (od.mod k12 id) size_Int (by simp) rfl rfl fun w13 o13 m13 z13 => ?_
      have o13' : Own w13 w1.heap.size tAns (eAns (s, G.wsum l, f, r, ())) := o13
      refine ansEnd size_Ans o13' fun w14 _ m14 => ?_
      have v14 := (((v11.mod d11 fun _ _ => id).mod k12 fun _ _ => id).mod m13 fun b hb e => (hf b hb).2 e).mod m14 fun b hb e => (hf b hb).2 e
      exact hQ s _ f r l w14 hA v14 hE hl (up (up ((K11.tr d11).tr k12) m13) m14) fun b hb => (hf b hb).1
    have hlen : l0.length ≤ 51 ∧ ∀ x ∈ l0, G.isE x := by
      rcases hcase with ⟨_, rfl, _⟩ | ⟨_, _, hl⟩
      · exact ⟨by simp, by simp⟩
      · have := hl.len ok
        exact ⟨by omega, fun x hx => ((hl.facts ok).2.2.1 x hx).1⟩
    have c0 := (own4 o10').1
    rw [lit 0] at c0
    refine ld1_i (k := .slice) s2 c0 ?_
    refine ContainsI_i (p := shutB c) (C := fun wx => Keep w10 wx) (v10.rd lenI) (by omega) (Mod.refl _ _) (fun _ _ a b => a.tr b) (fun x wx K hCx hx hK => ?_) fun b3 w15 k15 hb3 => ?_
    · refine callV_i S_engine_Engine_Way_c1 (by kernel_rfl) (decK_intro (ks := [.c (.int .i64), .c .ptr]) (t := (x, some ⟨W.heap.size, 0, none⟩, ())) ?_)
      show F_engine_Engine_Way_c1 _ _ _ _
      unfold F_engine_Engine_Way_c1
      have hxE := hlen.2 x hx
      have hcx := hc.mod (K10.tr hCx) eB_ne fun _ _ => id
      have hcl := hcx.len
      have occ := oc (k1_10.tr hCx)
      refine onSome_i rfl (ld1_i (k := .slice) closed occ (cond_d (fun hlt => onSome_i rfl (ld1_i (k := .slice) closed occ ?_)) (fun hge => ?_)))
      · obtain ⟨p, hp, hcp⟩ := rd_cell (k := .bool) (e := fun x => x) hcx (shutB_get hxE.1 (by omega))
        exact ⟨⟨hxE.1, hlt⟩, onSome_i hp (ld1_i (k := .bool) (shutB c x) hcp (hK wx (Mod.refl _ _)))⟩
      · have := hK wx (Mod.refl _ _)
        rw [shutB_ge (by omega)] at this; exact this
    have K15 := K10.tr k15
    refine cond_i (fun hb => ?_) (fun hb => ?_)
    · obtain ⟨xs, hxs, hsx⟩ := hb3.1 hb
      obtain ⟨hE, hl0⟩ : G.isE at_ ∧ G.LWay [] d0 at_ l0 := by
        rcases hcase with ⟨_, rfl, _⟩ | ⟨_, hh⟩
        · cases hxs
        · exact hh
      have d15 : Keep w15 w15.drew := Mod.drew (Mod.refl _ w15)
      have h15 := h.keep (K15.tr d15)
      have occ := oc ((k1_10.tr k15).tr d15)
      refine onSome_i rfl (ld1_i (k := .ptr) (some ⟨E.t.t, 0, none⟩) h15.cells.1 (onSome_i rfl (ld1_i (k := .ptr) (some ⟨E.t.t, 0, none⟩) h15.cells.1 (ld1_i (k := .slice) closed occ (ld1_i (k := .slice) closed occ ?_)))))
      refine To_i h15.tur hN (hc.mod (K15.tr d15) eB_ne fun _ _ => id) fun s7 d1 w16 hd1 v16 k16 f16 b16 => ?_
      have K16 := (K15.tr d15).tr k16
      have h16 := h.keep K16
      have k1_16 := ((k1_10.tr k15).tr d15).tr k16
      have o16 := ((o10'.mod k15 id).mod d15 id).mod k16 id
      have z16 := k1_16.size
      refine ⟨oc k1_16, h16.cells.1, ?_⟩
      have tail : ∀ w17 s8 b4 l1, Vec w17 tInt 1 eI s8 l1 → (∀ b, s8.b = some b → w16.heap.size ≤ b.block) → Keep w16 w17 → (∀ x ∈ l1, G.isE x) → l1.length ≤ 51 → G.AnsIs node at_ c l1 (G.wsum l1) b4 b4 →
          storeD Tryz.prog tsInt ⟨w1.heap.size, 0, none⟩ (Value.slice s8.b s8.l s8.c) w17 fun w18 => storeD Tryz.prog tBool ⟨w1.heap.size, 2, none⟩ (Value.bool b4) w18 fun w19 => ld1 .bool w19 ⟨w1.heap.size, 2, none⟩ fun (b5 : Bool) => storeD Tryz.prog tBool ⟨w1.heap.size, 3, none⟩ (Value.bool b5) w19 fun w20 => J (()) w20 := by
        intro w17 s8 b4 l1 v17 f17 k17 hE1 hl1 hA
        have nb8 : ∀ b, s8.b = some b → b.block ≠ w1.heap.size := fun b hb => by have := f17 b hb; have := o16.lt; omega
        refine storeD1_i (o := 0) (v := sv s8) (o16.mod k17 id) size_sInt (by simp) rfl rfl fun w18 o18 m18 _ => ?_
        refine storeD1_i (o := 2) (v := .bool b4) o18 size_Bool (by simp) rfl rfl fun w19 o19 m19 _ => ?_
        have o19' : Own w19 w1.heap.size tAns (eAns (s8, 0, b4, false, ())) := o19
        have c2 := (own4 o19').2.2.1
        rw [lit 2] at c2
        refine ld1_i (k := .bool) b4 c2 ?_
        refine storeD1_i (o := 3) (v := .bool b4) o19' size_Bool (by simp) rfl rfl fun w20 o20 m20 _ => ?_
        refine core w20 s8 l1 b4 b4 o20 (((v17.mod m18 fun b hb e => nb8 b hb e).mod m19 fun b hb e => nb8 b hb e).mod m20 fun b hb e => nb8 b hb e) hE1 hl1 hA (up (up (up (K16.tr k17) m18) m19) m20) fun b hb => ⟨?_, nb8 b hb⟩
        have := f17 b hb
        have := K16.size
        omega
      refine Along_i h16.tur hd1 (v16.rd lenI) (hc.mod K16 eB_ne fun _ _ => id) (fun v x hx => by have := b16 v x hx; simp only [BW] at *; omega) (fun hno => ?_) fun l1 s8 w17 _ h0 hl1 v17 k17 f17 => ?_
      · refine tail w16 _ false [] (Vec.nil _ _ _ _) (fun b hb => by cases hb) (Mod.refl _ _) (by simp) (by simp) (.no fun d _ hg => hno ⟨hE, (ok.dsv_le hd1 hg).1⟩)
      · have := hl1.len ok
        exact tail w17 s8 true l1 v17 f17 k17 (fun x hx => ((hl1.facts ok).2.2.1 x hx).1) (by omega) (.far hN hE hd0 hd1 hl0 ⟨xs, hxs, hsx⟩ hl1)
    · have hno : ∀ x ∈ l0, shutB c x = false := fun x hx => by
        cases hs : shutB c x with
        | false => rfl
        | true => have := hb3.2 ⟨x, hx, hs⟩; rw [hb] at this; cases this
      refine core w15 s2 l0 b1 false (o10'.mod k15 id) (v10.mod k15 fun _ _ => id) hlen.2 hlen.1 ?_ K15 fun b hb => ⟨by have := f8 b hb; have := K2.size; omega, nb b hb⟩
      rcases hcase with ⟨rfl, rfl, hng⟩ | ⟨rfl, hE, hl0⟩
      · exact .no fun d _ hg => hng d (G.gw_open hg)
      · exact .near hN hE hd0 hl0 hno
  refine Along_i (c := []) h7.tur hd0 (v7.rd lenI) (Rd.nil _ _ _) (fun v x hx => ?_) (fun hno => ?_) fun l s2 w8 hE h0 hl v8 k8 f8 => ?_
  · exact hb7 v x hx
  · refine rest w7 ⟨none, 0, 0⟩ false [] (Vec.nil _ _ _ _) (fun b hb => by cases hb) (Mod.refl _ _) (.inl ⟨rfl, rfl, fun d hg => hno ⟨(ok.gw_rng hg).1, (ok.dsv_le hd0 hg).1⟩⟩)
  · exact rest w8 s2 true l v8 f8 k8 (.inr ⟨rfl, hE, hl⟩)
end Go.Proofs.YtljiijljeipdhaaGreat

/-
  The document's turns, arcs, weights, walks.
-/
namespace Go.Proofs.YtljiijljeipdhaaGreat
open Go Go.Den

section
variable {g : GT} {G : Gr} {w : World} (h : GvIs w g G) (ok : OkG G)
include h ok
end
end Go.Proofs.YtljiijljeipdhaaGreat

/-
  The document's distances, and its way.
-/
namespace Go.Proofs.YtljiijljeipdhaaGreat
open Go Go.Den

section
variable {g : GT} {G : Gr} {W : World} (h : GvIs W g G) (ok : OkG G)
include h ok
end
end Go.Proofs.YtljiijljeipdhaaGreat

/-
  The document's way, and its answer.
-/
namespace Go.Proofs.YtljiijljeipdhaaGreat
open Go Go.Den

section
variable {g : GT} {G : Gr} {W : World} (h : GvIs W g G) (ok : OkG G)
include h ok
end
end Go.Proofs.YtljiijljeipdhaaGreat

/-
  The document's answer; walks, and where they end.
-/
namespace Go.Proofs.YtljiijljeipdhaaGreat
open Go Go.Den

section
variable {g : GT} {G : Gr} {W : World} (h : GvIs W g G) (ok : OkG G)
include h ok
end
end Go.Proofs.YtljiijljeipdhaaGreat

/-
  Towns, as the statements make them.
-/
namespace Go.Proofs.YtljiijljeipdhaaGreat
open Go Go.Den

structure TowSt (W w : World) (A : Nat) (g : GT) (N : List (Int × Int)) (E : List R3) (B : List (Int × Int)) : Prop where
  own : Own w A tAGraph (gcs g)
  vn : Vec w tNode 2 eP g.1 N
  ve : Vec w tEdge 3 eR3 g.2.1 E
  vb : Vec w tBan 2 eP g.2.2.1 B
  n1 : ∀ a, g.1.b = some a → a.block ≠ A ∧ W.heap.size ≤ a.block
  n2 : ∀ a, g.2.1.b = some a → a.block ≠ A ∧ W.heap.size ≤ a.block
  n3 : ∀ a, g.2.2.1.b = some a → a.block ≠ A ∧ W.heap.size ≤ a.block
  n12 : ∀ a b, g.1.b = some a → g.2.1.b = some b → a.block ≠ b.block
  n13 : ∀ a b, g.1.b = some a → g.2.2.1.b = some b → a.block ≠ b.block
  n23 : ∀ a b, g.2.1.b = some a → g.2.2.1.b = some b → a.block ≠ b.block
  lowA : W.heap.size ≤ A
  kp : Keep W w
section
variable {W w : World} {A : Nat} {g : GT} {N : List (Int × Int)} {E : List R3} {B : List (Int × Int)}
theorem TowSt.keep {w' : World} (h : TowSt W w A g N E B) (k : Keep w w') : TowSt W w' A g N E B :=
  ⟨h.own.mod k id, h.vn.mod k fun _ _ => id, h.ve.mod k fun _ _ => id, h.vb.mod k fun _ _ => id, h.n1, h.n2, h.n3, h.n12, h.n13, h.n23, h.lowA, h.kp.tr k⟩

theorem TowSt.pushN (h : TowSt W w A g N E B) (hl : N.length ≤ 100000) (x : Int × Int) {K : World → Prop} (hK : ∀ w' s, TowSt W w' A (s, g.2.1, g.2.2.1, ()) (N ++ [x]) E B → Mod (fun k => k = A ∨ ∃ a, g.1.b = some a ∧ k = a.block) w w' → (∀ a, s.b = some a → g.1.b = some a ∨ w.heap.size ≤ a.block) → K w') :
    allocD w (eP x).toArray tNode fun a5 w19 => w19.cell? ((⟨A, 0, none⟩ : Addr).add 0) = some (Value.slice g.1.b g.1.l g.1.c) ∧ appendD Tryz.prog tsNode tsNode g.1 (Value.slice (some a5) 1 1) w19 fun (s4 : Sl) w20 => storeD Tryz.prog tsNode ((⟨A, 0, none⟩ : Addr).add 0) (Value.slice s4.b s4.l s4.c) w20 K := by
  refine alloc_i fun w1 o1 k1 z1 => ?_
  have h1 := h.keep k1
  refine ⟨?_, ?_⟩
  · rw [addr_lit, h1.own.cell]; rfl
  have vx : Vec w1 tNode 2 eP ⟨some ⟨w.heap.size, 0, none⟩, 1, 1⟩ [x] := Vec.new lenP [x] (by simpa using o1) (by simp [maxLen])
  refine append_i elem_sNode lenP oneP h1.vn (vx.rd lenP) (by simp; omega) (by simp; omega) fun r w2 v2 m2 f2 _ => ?_
  have hA := h.own.lt
  have hW := h.kp.size
  have lit : ((⟨A, 0, none⟩ : Addr).add 0) = ⟨A, 0, none⟩ := by rw [addr_lit, Nat.zero_add]
  rw [lit]
  have o2 := h1.own.mod m2 fun ⟨a, ha, e⟩ => (h.n1 a ha).1 e.symm
  refine storeD1_i (o := 0) (v := sv r) o2 size_sNode (by simp) rfl rfl fun w3 o3 m3 _ => ?_
  have fr : ∀ a, r.b = some a → g.1.b = some a ∨ w.heap.size ≤ a.block := fun a ha => by
    rcases f2 with h2 | ⟨b, hb, hlt⟩
    · exact .inl (by rw [← h2]; exact ha)
    · rw [ha] at hb; cases hb; exact .inr (by omega)
  have nr : ∀ a, r.b = some a → a.block ≠ A ∧ W.heap.size ≤ a.block := fun a ha => by
    rcases fr a ha with h2 | h2
    · exact h.n1 a h2
    · exact ⟨by omega, by omega⟩
  refine hK w3 r ⟨o3, v2.mod m3 fun a ha e => (nr a ha).1 e, (h1.ve.mod m2 fun a ha ⟨b, hb, e⟩ => h.n12 b a hb ha e.symm).mod m3 fun a ha e => (h.n2 a ha).1 e, (h1.vb.mod m2 fun a ha ⟨b, hb, e⟩ => h.n13 b a hb ha e.symm).mod m3 fun a ha e => (h.n3 a ha).1 e, nr, h.n2, h.n3, fun a b ha hb => by have := h.ve.lt hb; rcases fr a ha with h2 | h2; exact h.n12 a b h2 hb; omega, fun a b ha hb => by have := h.vb.lt hb; rcases fr a ha with h2 | h2; exact h.n13 a b h2 hb; omega, h.n23, h.lowA, ((h.kp.tr k1).fresh m2 fun k ⟨a, ha, e⟩ => by rw [e]; exact (h.n1 a ha).2).fresh m3 fun k e => by rw [show k = A from e]; exact h.lowA⟩ ?_ fr
  exact ((k1.wk.trans m2 fun k _ hk => .inr hk).trans m3 fun k _ e => .inl e)

theorem TowSt.pushE (h : TowSt W w A g N E B) (hl : E.length ≤ 100000) (x : R3) {K : World → Prop} (hK : ∀ w' s, TowSt W w' A (g.1, s, g.2.2.1, ()) N (E ++ [x]) B → Mod (fun k => k = A ∨ ∃ a, g.2.1.b = some a ∧ k = a.block) w w' → (∀ a, s.b = some a → g.2.1.b = some a ∨ w.heap.size ≤ a.block) → K w') :
    allocD w (eR3 x).toArray tEdge fun a5 w19 => w19.cell? ((⟨A, 0, none⟩ : Addr).add 1) = some (Value.slice g.2.1.b g.2.1.l g.2.1.c) ∧ appendD Tryz.prog tsEdge tsEdge g.2.1 (Value.slice (some a5) 1 1) w19 fun (s4 : Sl) w20 => storeD Tryz.prog tsEdge ((⟨A, 0, none⟩ : Addr).add 1) (Value.slice s4.b s4.l s4.c) w20 K := by
  refine alloc_i fun w1 o1 k1 z1 => ?_
  have h1 := h.keep k1
  refine ⟨?_, ?_⟩
  · rw [addr_lit, h1.own.cell]; rfl
  have vx : Vec w1 tEdge 3 eR3 ⟨some ⟨w.heap.size, 0, none⟩, 1, 1⟩ [x] := Vec.new lenR3' [x] (by simpa using o1) (by simp [maxLen])
  refine append_i elem_sEdge lenR3' oneR3 h1.ve (vx.rd lenR3') (by simp; omega) (by simp; omega) fun r w2 v2 m2 f2 _ => ?_
  have hA := h.own.lt
  have hW := h.kp.size
  have lit : ((⟨A, 0, none⟩ : Addr).add 1) = ⟨A, 1, none⟩ := by rw [addr_lit, Nat.zero_add]
  rw [lit]
  have o2 := h1.own.mod m2 fun ⟨a, ha, e⟩ => (h.n2 a ha).1 e.symm
  refine storeD1_i (o := 1) (v := sv r) o2 size_sEdge (by simp) rfl rfl fun w3 o3 m3 _ => ?_
  have fr : ∀ a, r.b = some a → g.2.1.b = some a ∨ w.heap.size ≤ a.block := fun a ha => by
    rcases f2 with h2 | ⟨b, hb, hlt⟩
    · exact .inl (by rw [← h2]; exact ha)
    · rw [ha] at hb; cases hb; exact .inr (by omega)
  have nr : ∀ a, r.b = some a → a.block ≠ A ∧ W.heap.size ≤ a.block := fun a ha => by
    rcases fr a ha with h2 | h2
    · exact h.n2 a h2
    · exact ⟨by omega, by omega⟩
  refine hK w3 r ⟨o3, (h1.vn.mod m2 fun a ha ⟨b, hb, e⟩ => h.n12 a b ha hb e).mod m3 fun a ha e => (h.n1 a ha).1 e, v2.mod m3 fun a ha e => (nr a ha).1 e, (h1.vb.mod m2 fun a ha ⟨b, hb, e⟩ => h.n23 b a hb ha e.symm).mod m3 fun a ha e => (h.n3 a ha).1 e, h.n1, nr, h.n3, fun a b ha hb => by have := h.vn.lt ha; rcases fr b hb with h2 | h2; exact h.n12 a b ha h2; omega, h.n13, fun a b ha hb => by have := h.vb.lt hb; rcases fr a ha with h2 | h2; exact h.n23 a b h2 hb; omega, h.lowA, ((h.kp.tr k1).fresh m2 fun k ⟨a, ha, e⟩ => by rw [e]; exact (h.n2 a ha).2).fresh m3 fun k e => by rw [show k = A from e]; exact h.lowA⟩ ?_ fr
  exact ((k1.wk.trans m2 fun k _ hk => .inr hk).trans m3 fun k _ e => .inl e)

theorem TowSt.pushB (h : TowSt W w A g N E B) (hl : B.length ≤ 100000) (x : Int × Int) {K : World → Prop} (hK : ∀ w' s, TowSt W w' A (g.1, g.2.1, s, ()) N E (B ++ [x]) → Mod (fun k => k = A ∨ ∃ a, g.2.2.1.b = some a ∧ k = a.block) w w' → (∀ a, s.b = some a → g.2.2.1.b = some a ∨ w.heap.size ≤ a.block) → K w') :
    allocD w (eP x).toArray tBan fun a5 w19 => appendD Tryz.prog tsBan tsBan g.2.2.1 (Value.slice (some a5) 1 1) w19 fun (s4 : Sl) w20 => storeD Tryz.prog tsBan ((⟨A, 0, none⟩ : Addr).add 2) (Value.slice s4.b s4.l s4.c) w20 K := by
  refine alloc_i fun w1 o1 k1 z1 => ?_
  have h1 := h.keep k1
  have vx : Vec w1 tBan 2 eP ⟨some ⟨w.heap.size, 0, none⟩, 1, 1⟩ [x] := Vec.new lenP [x] (by simpa using o1) (by simp [maxLen])
  refine append_i elem_sBan lenP oneP h1.vb (vx.rd lenP) (by simp; omega) (by simp; omega) fun r w2 v2 m2 f2 _ => ?_
  have hA := h.own.lt
  have hW := h.kp.size
  have lit : ((⟨A, 0, none⟩ : Addr).add 2) = ⟨A, 2, none⟩ := by rw [addr_lit, Nat.zero_add]
  rw [lit]
  have o2 := h1.own.mod m2 fun ⟨a, ha, e⟩ => (h.n3 a ha).1 e.symm
  refine storeD1_i (o := 2) (v := sv r) o2 size_sBan (by simp) rfl rfl fun w3 o3 m3 _ => ?_
  have fr : ∀ a, r.b = some a → g.2.2.1.b = some a ∨ w.heap.size ≤ a.block := fun a ha => by
    rcases f2 with h2 | ⟨b, hb, hlt⟩
    · exact .inl (by rw [← h2]; exact ha)
    · rw [ha] at hb; cases hb; exact .inr (by omega)
  have nr : ∀ a, r.b = some a → a.block ≠ A ∧ W.heap.size ≤ a.block := fun a ha => by
    rcases fr a ha with h2 | h2
    · exact h.n3 a h2
    · exact ⟨by omega, by omega⟩
  refine hK w3 r ⟨o3, (h1.vn.mod m2 fun a ha ⟨b, hb, e⟩ => h.n13 a b ha hb e).mod m3 fun a ha e => (h.n1 a ha).1 e, (h1.ve.mod m2 fun a ha ⟨b, hb, e⟩ => h.n23 a b ha hb e).mod m3 fun a ha e => (h.n2 a ha).1 e, v2.mod m3 fun a ha e => (nr a ha).1 e, h.n1, h.n2, nr, h.n12, fun a b ha hb => by have := h.vn.lt ha; rcases fr b hb with h2 | h2; exact h.n13 a b ha h2; omega, fun a b ha hb => by have := h.ve.lt ha; rcases fr b hb with h2 | h2; exact h.n23 a b ha h2; omega, h.lowA, ((h.kp.tr k1).fresh m2 fun k ⟨a, ha, e⟩ => by rw [e]; exact (h.n3 a ha).2).fresh m3 fun k e => by rw [show k = A from e]; exact h.lowA⟩ ?_ fr
  exact ((k1.wk.trans m2 fun k _ hk => .inr hk).trans m3 fun k _ e => .inl e)
end
theorem Round24_i {k n : Int} {w : World} {Q : Int → World → Prop} (hn : 0 < n) (h63 : n ≤ 1000000) (hQ : ∀ x, 0 ≤ x → x < n → Q x w) : F_ref24_Round k n w Q := by
  unfold F_ref24_Round
  have h1 := Int.lt_tmod_of_pos k hn
  have h2 := Int.tmod_lt_of_pos k hn
  refine ⟨by omega, cond_d (fun h => ?_) (fun h => ?_)⟩
  · rw [w64 (n := Int.tmod k n + n) (by omega) (by omega)]
    have h' : Int.tmod k n < 0 := h
    exact hQ _ (by omega) (by omega)
  · have h' : ¬ Int.tmod k n < 0 := h
    exact hQ _ (by omega) h2
theorem at_i {l : Sl} {xs : List Int} {i n : Int} {w : World} {Q : Int → World → Prop} (hl : Rd w l 1 eI xs) (h0 : 0 ≤ i) (h1 : i ≤ 1000000) (hn : 0 < n) (h63 : n ≤ 1000000) (hQ : ∀ x w', 0 ≤ x → x < n → Keep w w' → Q x w') : F_ref24_at l i n w Q := by
  unfold F_ref24_at
  have hll := hl.len
  refine cond_i (fun h => hQ 0 w (Int.le_refl _) hn (Mod.refl _ _)) (fun h => ?_)
  have hne : ¬ ((l.l : Nat) : Int) = 0 := by simpa using h
  have hpos : 0 < ((l.l : Nat) : Int) := by omega
  have d : Keep w w.drew := Mod.drew (Mod.refl _ w)
  have m0 : 0 ≤ Int.tmod i ((l.l : Nat) : Int) := Int.tmod_nonneg _ h0
  have m1 := Int.tmod_lt_of_pos i hpos
  have hget := List.getElem?_eq_getElem (show (Int.tmod i ((l.l : Nat) : Int)).toNat < xs.length by omega)
  obtain ⟨p, hp, hc⟩ := rd_cell (k := .int .i64) (e := fun x => x) (hl.mod d eI_ne fun _ _ => id) hget
  exact ⟨hne, ⟨m0, m1⟩, onSome_i hp (ld1_i (k := .int .i64) _ hc ⟨by decide, hne, Round24_i hn h63 fun x x0 x1 => hQ x _ x0 x1 d⟩)⟩

def nxt (wn hn i : Nat) (k : Nat) : Int := if k = 0 then (if i % wn < wn - 1 then ((i + 1 : Nat) : Int) else -1) else (if i / wn < hn - 1 then ((i + wn : Nat) : Int) else -1)
def preK2 (wn hn i k : Nat) : List (Nat × Nat) := fullI wn hn i ++ (if 1 ≤ k then fullK wn hn i 0 else []) ++ (if 2 ≤ k then fullK wn hn i 1 else [])
theorem pre_next {wn hn i k : Nat} (hk : k < 2) : preK2 wn hn i (k + 1) = preK2 wn hn i k ++ fullK wn hn i k := by
  unfold preK2
  have : k = 0 ∨ k = 1 := by omega
  rcases this with rfl | rfl <;> simp
theorem full_nxt {wn hn i k : Nat} (hk : k < 2) : (nxt wn hn i k < 0 ∧ fullK wn hn i k = []) ∨ ∃ j : Nat, nxt wn hn i k = (j : Int) ∧ fullK wn hn i k = [(i, j), (j, i)] := by
  unfold nxt
  have : k = 0 ∨ k = 1 := by omega
  rcases this with rfl | rfl
  · by_cases h : i % wn < wn - 1
    · exact .inr ⟨i + 1, by simp [h], by simp [fullK, h]⟩
    · exact .inl ⟨by simp [h], by simp [fullK, h]⟩
  · by_cases h : i / wn < hn - 1
    · exact .inr ⟨i + wn, by simp [h], by simp [fullK, h]⟩
    · exact .inl ⟨by simp [h], by simp [fullK, h]⟩

theorem Town_i {l : Sl} {xs : List Int} {W : World} {Q : GT → World → Prop} (hl : Rd W l 1 eI xs) (hQ : ∀ g G w', GvIs w' g G → OkG G → G.n ≤ 16 → Keep W w' → Q g w') : F_ref24_Town l W Q := by
  unfold F_ref24_Town
  refine alloc_i fun w1 o1 k1 z1 => alloc_i fun w2 o2 k2 z2 => ?_
  have K2 := k1.tr k2
  have st2 : TowSt W w2 w1.heap.size (⟨none, 0, 0⟩, ⟨none, 0, 0⟩, ⟨none, 0, 0⟩, ()) [] [] [] :=
    ⟨o2, Vec.nil _ _ _ _, Vec.nil _ _ _ _, Vec.nil _ _ _ _, (fun a ha => by cases ha), (fun a ha => by cases ha), (fun a ha => by cases ha), (fun a b ha => by cases ha), (fun a b ha => by cases ha), (fun a b ha => by cases ha), by omega, K2⟩
  have hA1 : W.heap.size < w1.heap.size := by omega
  generalize hA : w1.heap.size = A at *
  have o1' : Own w2 W.heap.size tAGraph (gcs (⟨none, 0, 0⟩, ⟨none, 0, 0⟩, ⟨none, 0, 0⟩, ())) := o1.mod k2 id
  have hlk : ∀ {wx : World}, Keep W wx → Rd wx l 1 eI xs := fun kx => hl.mod kx eI_ne fun _ _ => id
  refine at_i (hlk K2) (by decide) (by decide) (by decide) (by decide) fun x1 w3 x10 x11 k3 => ?_
  refine at_i (hlk (K2.tr k3)) (by decide) (by decide) (by decide) (by decide) fun x2 w4 x20 x21 k4 => ?_
  obtain ⟨wn, hwn⟩ : ∃ wn : Nat, (1 : Int) + x1 = (wn : Int) := ⟨(1 + x1).toNat, by omega⟩
  obtain ⟨hn, hhn⟩ : ∃ hn : Nat, (1 : Int) + x2 = (hn : Int) := ⟨(1 + x2).toNat, by omega⟩
  have wr1 : IntKind.wrap .i64 ((1 : Int) + x1) = (wn : Int) := by rw [w64 (by omega) (by omega), hwn]
  have wr2 : IntKind.wrap .i64 ((1 : Int) + x2) = (hn : Int) := by rw [w64 (by omega) (by omega), hhn]
  have wn1 : 1 ≤ wn ∧ wn ≤ 4 := by omega
  have hn1 : 1 ≤ hn ∧ hn ≤ 4 := by omega
  have hM : wn * hn ≤ 4 * 4 := Nat.mul_le_mul wn1.2 hn1.2
  have hM1 : 1 * 1 ≤ wn * hn := Nat.mul_le_mul wn1.1 hn1.1
  have wrM : IntKind.wrap .i64 ((wn : Int) * (hn : Int)) = ((wn * hn : Nat) : Int) := by
    rw [← Int.natCast_mul, w64 (by omega) (by omega)]
  rw [wr1, wr2, wrM]
  generalize hMM : wn * hn = M at *
  have tm : ∀ i : Nat, Int.tmod (i : Int) (wn : Int) = ((i % wn : Nat) : Int) := fun i => (Int.ofNat_tmod i wn).symm
  have td : ∀ i : Nat, Int.tdiv (i : Int) (wn : Int) = ((i / wn : Nat) : Int) := fun i => (Int.ofNat_tdiv i wn).symm
  have hne : ¬ (wn : Int) = 0 := by omega
  have st4 := (st2.keep k3).keep k4
  -- the nodes
  refine loop_i (fun c t w5 => ∃ (i : Nat) (g : GT) (N : List (Int × Int)), i ≤ M ∧ c = M - i ∧ t = ((i : Int), ()) ∧ TowSt W w5 A g N [] [] ∧ N.length = i ∧ (∀ p ∈ N, (0 ≤ p.1 ∧ p.1 ≤ 4095) ∧ 0 ≤ p.2 ∧ p.2 ≤ 4095) ∧ Own w5 W.heap.size tAGraph (gcs (⟨none, 0, 0⟩, ⟨none, 0, 0⟩, ⟨none, 0, 0⟩, ())) ∧ (∀ a, g.1.b = some a → a.block ≠ W.heap.size) ∧ g.2.1.b = none ∧ g.2.2.1.b = none) M
    ⟨0, _, [], Nat.zero_le _, rfl, rfl, st4, rfl, by simp, (o1'.mod k3 id).mod k4 id, (fun a ha => by cases ha), rfl, rfl⟩ ?_
  clear st2 st4 o1' o1 o2
  rintro c t w5 ⟨i, g, N, hi, rfl, rfl, st, hNl, hNo, oR, nR, eb2, eb3⟩ X hX
  dsimp only
  refine cond_d (fun hlt => ?_) (fun hge => ?_)
  · have hi' : i < M := by omega
    have d5 : Keep w5 w5.drew := Mod.drew (Mod.refl _ w5)
    have st5 := st.keep d5
    have lit0 : ∀ {wx : World}, Own wx A tAGraph (gcs g) → wx.cell? ((⟨A, 0, none⟩ : Addr).add 0) = some (sv g.1) := fun h => by rw [addr_lit, h.cell]; rfl
    refine ld1_i (k := .slice) g.1 (lit0 st5.own) ⟨hne, hne, ?_⟩
    rw [w64 (n := (2 : Int) + (i : Int)) (by omega) (by omega)]
    refine at_i (hlk st5.kp) (by omega) (by omega) (by decide) (by decide) fun x3 w6 x30 x31 k6 => ?_
    have st6 := st5.keep k6
    refine ⟨lit0 st6.own, ?_⟩
    have hmod : i % wn < wn := Nat.mod_lt _ (by omega)
    have hdiv : i / wn ≤ i := Nat.div_le_self _ _
    rw [tm, td]
    generalize i / wn = q at *
    generalize i % wn = r at *
    rw [w64 (n := (q : Int)) (by omega) (by omega), w64 (n := (100 : Int) * (q : Int)) (by omega) (by omega), w64 (n := (100 : Int) * (r : Int)) (by omega) (by omega), w64 (n := (100 : Int) * (q : Int) + x3) (by omega) (by omega)]
    refine st6.pushN (x := ((100 : Int) * (r : Int), (100 : Int) * (q : Int) + x3)) (by omega) fun w8 s st8 m8 f8 => ?_
    rw [wi_ i (by omega)]
    have zk := st6.kp.size
    have oR6 := (oR.mod d5 id).mod k6 id
    refine hX _ _ _ (by omega) ⟨i + 1, _, _, hi', rfl, rfl, st8, by simp [hNl], fun p hp => ?_, oR6.mod m8 fun hh => ?_, fun a ha e => ?_, eb2, eb3⟩
    · rcases List.mem_append.1 hp with hp | hp
      · exact hNo p hp
      · have : p = ((100 : Int) * (r : Int), (100 : Int) * (q : Int) + x3) := by simpa using hp
        subst this
        exact ⟨⟨by show 0 ≤ (100 : Int) * _; omega, by show (100 : Int) * _ ≤ 4095; omega⟩, by show 0 ≤ (100 : Int) * _ + x3; omega, by show (100 : Int) * _ + x3 ≤ 4095; omega⟩
    · rcases hh with e | ⟨a, ha, e⟩
      · omega
      · exact nR a ha e.symm
    · rcases f8 a ha with h1 | h1
      · exact nR a h1 e
      · have := oR6.lt; omega
  have ei : M = i := by omega
  subst ei
  clear hX hge hi
  -- the grid's edges
  refine loop_i (fun c t w5 => ∃ (i : Nat) (g : GT) (E : List R3), i ≤ M ∧ c = M - i ∧ t = ((i : Int), ()) ∧ TowSt W w5 A g N E [] ∧ GridE wn hn (fullI wn hn i) E ∧ E.length ≤ 2 * 2 * i ∧ Own w5 W.heap.size tAGraph (gcs (⟨none, 0, 0⟩, ⟨none, 0, 0⟩, ⟨none, 0, 0⟩, ())) ∧ (∀ a, g.1.b = some a → a.block ≠ W.heap.size) ∧ (∀ a, g.2.1.b = some a → a.block ≠ W.heap.size) ∧ g.2.2.1.b = none) M
    ⟨0, g, [], Nat.zero_le _, rfl, rfl, st, GridE.nil _ _ _, by simp, oR, nR, (fun a ha => by rw [eb2] at ha; cases ha), eb3⟩ ?_
  clear st oR nR eb2 eb3 g
  rintro c t w5 ⟨i, g, E, hi, rfl, rfl, st, hG, hEl, oR, nR, nR2, eb3⟩ X hX
  dsimp only
  refine cond_d (fun hlt => ?_) (fun hge => ?_)
  · have hi' : i < M := by omega
    refine agg_new (vs := [.int .i64 (-1), .int .i64 (-1)]) size_Arr2 rfl (by simp [Value.oneCell']) fun w12 o12 k12 z12 => ?_
    have st12 := st.keep k12
    have oR12 := oR.mod k12 id
    have hRlt := oR.lt
    have hAlt := st.own.lt
    have g2lt : ∀ a, g.2.1.b = some a → a.block < w5.heap.size := fun a ha => st.ve.lt ha
    have up : ∀ {wx wy : World} {g' : GT} {E' : List R3} {B' : List (Int × Int)}, TowSt W wx A g' N E' B' → Mod (fun k => k = w5.heap.size) wx wy → (∀ a, g'.1.b = some a → a.block ≠ w5.heap.size) → (∀ a, g'.2.1.b = some a → a.block ≠ w5.heap.size) → (∀ a, g'.2.2.1.b = some a → a.block ≠ w5.heap.size) → TowSt W wy A g' N E' B' := fun h m h1 h2 h3 =>
      ⟨h.own.mod m fun e => by omega, h.vn.mod m fun a ha e => h1 a ha e, h.ve.mod m fun a ha e => h2 a ha e, h.vb.mod m fun a ha e => h3 a ha e, h.n1, h.n2, h.n3, h.n12, h.n13, h.n23, h.lowA, h.kp.fresh m fun k e => by rw [show k = w5.heap.size from e]; exact st.kp.size⟩
    have n1 : ∀ a, g.1.b = some a → a.block ≠ w5.heap.size := fun a ha e => by have := st.vn.lt ha; omega
    have n2 : ∀ a, g.2.1.b = some a → a.block ≠ w5.heap.size := fun a ha e => by have := st.ve.lt ha; omega
    have n3 : ∀ a, g.2.2.1.b = some a → a.block ≠ w5.heap.size := fun a ha => by rw [eb3] at ha; cases ha
    have upR : ∀ {wx wy : World}, Own wx W.heap.size tAGraph (gcs (⟨none, 0, 0⟩, ⟨none, 0, 0⟩, ⟨none, 0, 0⟩, ())) → Mod (fun k => k = w5.heap.size) wx wy → Own wy W.heap.size tAGraph (gcs (⟨none, 0, 0⟩, ⟨none, 0, 0⟩, ⟨none, 0, 0⟩, ())) := fun o m => o.mod m fun e => by omega
    intro J1 hJ1
    -- with both neighbours told
    have core1 : ∀ w13, TowSt W w13 A g N E [] → Own w13 W.heap.size tAGraph (gcs (⟨none, 0, 0⟩, ⟨none, 0, 0⟩, ⟨none, 0, 0⟩, ())) → Own w13 w5.heap.size tArr2 [.int .i64 (nxt wn hn i 0), .int .i64 (-1)] → J1 () w13 := by
      intro w13 st13 oR13 o13
      apply hJ1
      intro J2 hJ2
      have core2 : ∀ w14, TowSt W w14 A g N E [] → Own w14 W.heap.size tAGraph (gcs (⟨none, 0, 0⟩, ⟨none, 0, 0⟩, ⟨none, 0, 0⟩, ())) → Own w14 w5.heap.size tArr2 [.int .i64 (nxt wn hn i 0), .int .i64 (nxt wn hn i 1)] → J2 () w14 := by
        intro w14 st14 oR14 o14
        apply hJ2
        have h0 : GridE wn hn (preK2 wn hn i 0) E := by unfold preK2; simpa using hG
        refine loop_i (fun c t w15 => ∃ (k : Nat) (g : GT) (E : List R3), k ≤ 2 ∧ c = 2 - k ∧ t = ((k : Int), ()) ∧ TowSt W w15 A g N E [] ∧ GridE wn hn (preK2 wn hn i k) E ∧ E.length ≤ 2 * 2 * i + 2 * k ∧ Own w15 W.heap.size tAGraph (gcs (⟨none, 0, 0⟩, ⟨none, 0, 0⟩, ⟨none, 0, 0⟩, ())) ∧
            Own w15 w5.heap.size tArr2 [.int .i64 (nxt wn hn i 0), .int .i64 (nxt wn hn i 1)] ∧ (∀ a, g.1.b = some a → a.block ≠ W.heap.size ∧ a.block ≠ w5.heap.size) ∧ (∀ a, g.2.1.b = some a → a.block ≠ W.heap.size ∧ a.block ≠ w5.heap.size) ∧ g.2.2.1.b = none) 2
          ⟨0, g, E, by omega, rfl, rfl, st14, h0, by omega, oR14, o14, fun a ha => ⟨nR a ha, n1 a ha⟩, fun a ha => ⟨nR2 a ha, n2 a ha⟩, eb3⟩ ?_
        clear st14 oR14 o14 h0
        rintro c t w15 ⟨k, g, E, hk, rfl, rfl, st, hG, hEl, oR, oN, m1, m2, eb3⟩ Y hY
        dsimp only
        refine cond_d (fun hlt2 => ?_) (fun hge2 => ?_)
        · have hk' : k < 2 := by omega
          have cN : ∀ {wx : World}, Own wx w5.heap.size tArr2 [.int .i64 (nxt wn hn i 0), .int .i64 (nxt wn hn i 1)] → wx.cell? ((⟨w5.heap.size, 0, none⟩ : Addr).add (k * 1)) = some (.int .i64 (nxt wn hn i k)) := fun h => by
            rw [addr_lit, h.cell]
            have : k = 0 ∨ k = 1 := by omega
            rcases this with rfl | rfl <;> rfl
          have B2 : 0 ≤ (k : Int) ∧ (k : Int) < ((2 : Nat) : Int) := ⟨by omega, by omega⟩
          rw [Int.toNat_natCast]
          refine ⟨B2, ld1_i (k := .int .i64) (nxt wn hn i k) (cN oN) ?_⟩
          rcases full_nxt (wn := wn) (hn := hn) (i := i) hk' with ⟨hneg, hfull⟩ | ⟨j, hj, hfull⟩
          · refine cond_d (fun _ => ?_) (fun h => absurd hneg h)
            rw [wi_ k (by omega)]
            exact hY _ _ _ (by omega) ⟨k + 1, g, E, hk', rfl, rfl, st, by rw [pre_next hk']; exact hG.more, by omega, oR, oN, m1, m2, eb3⟩
          refine cond_d (fun h => absurd (show nxt wn hn i k < 0 from h) (by omega)) (fun _ => ?_)
          rw [w64 (n := (3 : Int) * (i : Int)) (by omega) (by omega), w64 (n := (20 : Int) + (3 : Int) * (i : Int)) (by omega) (by omega), w64 (n := (20 : Int) + (3 : Int) * (i : Int) + (k : Int)) (by omega) (by omega)]
          refine at_i (hlk st.kp) (by omega) (by omega) (by decide) (by decide) fun x5 w16 _ _ k16 => ?_
          have st16 := st.keep k16
          have oR16 := oR.mod k16 id
          have oN16 := oN.mod k16 id
          rw [w64 (n := (90 : Int) + (i : Int)) (by omega) (by omega), w64 (n := (90 : Int) + (i : Int) + (k : Int)) (by omega) (by omega), w64 (n := (60 : Int) + (i : Int)) (by omega) (by omega), w64 (n := (60 : Int) + (i : Int) + (k : Int)) (by omega) (by omega)]
          intro J3 hJ3
          -- behind the first one
          have core3 : ∀ w17 g' E', TowSt W w17 A g' N E' [] → GridE wn hn (preK2 wn hn i k ++ [(i, j)]) E' → E'.length ≤ 2 * 2 * i + 2 * k + 1 → Own w17 W.heap.size tAGraph (gcs (⟨none, 0, 0⟩, ⟨none, 0, 0⟩, ⟨none, 0, 0⟩, ())) → Own w17 w5.heap.size tArr2 [.int .i64 (nxt wn hn i 0), .int .i64 (nxt wn hn i 1)] →
              (∀ a, g'.1.b = some a → a.block ≠ W.heap.size ∧ a.block ≠ w5.heap.size) → (∀ a, g'.2.1.b = some a → a.block ≠ W.heap.size ∧ a.block ≠ w5.heap.size) → g'.2.2.1.b = none → J3 () w17 := by
            intro w17 g' E' st17 hG17 hEl17 oR17 oN17 m17 m27 eb17
            apply hJ3
            have pk : preK2 wn hn i (k + 1) = preK2 wn hn i k ++ [(i, j)] ++ [(j, i)] := by rw [pre_next hk', hfull]; simp
            refine cond_i (fun _ => ?_) (fun _ => ?_)
            · have d17 : Keep w17 w17.drew := Mod.drew (Mod.refl _ w17)
              have st17d := st17.keep d17
              have lit1 : ∀ {wx : World} {g' : GT}, Own wx A tAGraph (gcs g') → wx.cell? ((⟨A, 0, none⟩ : Addr).add 1) = some (sv g'.2.1) := fun h => by rw [addr_lit, h.cell]; rfl
              refine ld1_i (k := .slice) g'.2.1 (lit1 st17d.own) ⟨B2, ld1_i (k := .int .i64) (nxt wn hn i k) (cN (oN17.mod d17 id)) ?_⟩
              refine at_i (hlk st17d.kp) (by omega) (by omega) (by decide) (by decide) fun x7 w18 x70 x71 k18 => ?_
              have st18 := st17d.keep k18
              refine ⟨cN ((oN17.mod d17 id).mod k18 id), lit1 st18.own, ?_⟩
              rw [w64 (n := (1 : Int) + x7) (by omega) (by omega), hj]
              refine st18.pushE (x := ((j : Int), (i : Int), (1 : Int) + x7)) (by omega) fun w21 s st21 m21 f21 => ?_
              have o5 := ((oN17.mod d17 id).mod k18 id)
              have oR5 := ((oR17.mod d17 id).mod k18 id)
              rw [wi_ k (by omega)]
              refine hY _ _ _ (by omega) ⟨k + 1, _, _, hk', rfl, rfl, st21, by rw [pk]; exact hG17.push (by omega) (by omega), by rw [List.length_append, List.length_singleton]; omega, oR5.mod m21 fun hh => ?_, o5.mod m21 fun hh => ?_, m17, fun a ha => ?_, eb17⟩
              · rcases hh with e | ⟨a, ha, e⟩
                · omega
                · exact (m27 a ha).1 e.symm
              · rcases hh with e | ⟨a, ha, e⟩
                · omega
                · exact (m27 a ha).2 e.symm
              · rcases f21 a ha with h1 | h1
                · exact m27 a h1
                · have := oR5.lt; have := o5.lt; exact ⟨by omega, by omega⟩
            · rw [wi_ k (by omega)]
              exact hY _ _ _ (by omega) ⟨k + 1, _, _, hk', rfl, rfl, st17, by rw [pk]; exact hG17.more, by omega, oR17, oN17, m17, m27, eb17⟩
          refine cond_i (fun _ => ?_) (fun _ => ?_)
          · have d17 : Keep w16 w16.drew := Mod.drew (Mod.refl _ w16)
            have st17d := st16.keep d17
            have lit1 : ∀ {wx : World} {g' : GT}, Own wx A tAGraph (gcs g') → wx.cell? ((⟨A, 0, none⟩ : Addr).add 1) = some (sv g'.2.1) := fun h => by rw [addr_lit, h.cell]; rfl
            refine ld1_i (k := .slice) g.2.1 (lit1 st17d.own) ⟨B2, ld1_i (k := .int .i64) (nxt wn hn i k) (cN (oN16.mod d17 id)) ?_⟩
            refine at_i (hlk st17d.kp) (by omega) (by omega) (by decide) (by decide) fun x9 w18 x70 x71 k18 => ?_
            have st18 := st17d.keep k18
            refine ⟨cN ((oN16.mod d17 id).mod k18 id), lit1 st18.own, ?_⟩
            rw [w64 (n := (1 : Int) + x9) (by omega) (by omega), hj]
            refine st18.pushE (x := ((i : Int), (j : Int), (1 : Int) + x9)) (by omega) fun w21 s st21 m21 f21 => ?_
            have o5 := ((oN16.mod d17 id).mod k18 id)
            have oR5 := ((oR16.mod d17 id).mod k18 id)
            refine core3 w21 _ _ st21 (hG.push (by omega) (by omega)) (by rw [List.length_append, List.length_singleton]; omega) (oR5.mod m21 fun hh => ?_) (o5.mod m21 fun hh => ?_) m1 (fun a ha => ?_) eb3
            · rcases hh with e | ⟨a, ha, e⟩
              · omega
              · exact (m2 a ha).1 e.symm
            · rcases hh with e | ⟨a, ha, e⟩
              · omega
              · exact (m2 a ha).2 e.symm
            · rcases f21 a ha with h1 | h1
              · exact m2 a h1
              · have := oR5.lt; have := o5.lt; exact ⟨by omega, by omega⟩
          · exact core3 w16 g E st16 hG.more (by omega) oR16 oN16 m1 m2 eb3
        · have ek : k = 2 := by omega
          subst ek
          rw [wi_ i (by omega)]
          have e2 : preK2 wn hn i 2 = fullI wn hn (i + 1) := by unfold preK2; rw [fullI_succ]; simp
          rw [e2] at hG
          exact hX _ _ _ (by omega) ⟨i + 1, g, E, hi', rfl, rfl, st, hG, by omega, oR, fun a ha => (m1 a ha).1, fun a ha => (m2 a ha).1, eb3⟩
      refine ⟨hne, ?_⟩
      have q0 : (0 : Int) ≤ ((i / wn : Nat) : Int) := Int.natCast_nonneg _
      rw [td, w64 (n := ((i / wn : Nat) : Int)) (by omega) (by have := Nat.div_le_self i wn; omega), w64 (n := (hn : Int) - 1) (by omega) (by omega)]
      refine cond_d (fun hc => ⟨by decide, ?_⟩) (fun hc => ?_)
      · have hc' : i / wn < hn - 1 := by have : ((i / wn : Nat) : Int) < (hn : Int) - 1 := hc; omega
        have hdl := Nat.div_le_self i wn
        rw [show Int.toNat (1 : Int) * 1 = 1 from rfl, show ((⟨w5.heap.size, 0, none⟩ : Addr).add 1) = ⟨w5.heap.size, 1, none⟩ by rw [addr_lit], w64 (n := (i : Int) + (wn : Int)) (by omega) (by omega)]
        refine storeD1_i (o := 1) (v := .int .i64 ((i : Int) + (wn : Int))) o13 size_Int (by simp) rfl rfl fun w14 o14 m14 _ => ?_
        refine core2 w14 (up st13 m14 n1 n2 n3) (upR oR13 m14) ?_
        have : nxt wn hn i 1 = (i : Int) + (wn : Int) := by unfold nxt; simp [hc']
        rw [this]; exact o14
      · have hc' : ¬ i / wn < hn - 1 := by have : ¬ ((i / wn : Nat) : Int) < (hn : Int) - 1 := hc; omega
        refine core2 w13 st13 oR13 ?_
        have : nxt wn hn i 1 = -1 := by unfold nxt; simp [hc']
        rw [this]; exact o13
    refine ⟨hne, ?_⟩
    rw [tm, w64 (n := (wn : Int) - 1) (by omega) (by omega)]
    have hmod : i % wn < wn := Nat.mod_lt _ (by omega)
    refine cond_d (fun hc => ⟨by decide, ?_⟩) (fun hc => ?_)
    · have hc' : i % wn < wn - 1 := by have : ((i % wn : Nat) : Int) < (wn : Int) - 1 := hc; omega
      rw [show Int.toNat (0 : Int) * 1 = 0 from rfl, add_zero, w64 (n := (i : Int) + (1 : Int)) (by omega) (by omega)]
      refine storeD1_i (o := 0) (v := .int .i64 ((i : Int) + 1)) o12 size_Int (by simp) rfl rfl fun w13 o13 m13 _ => ?_
      refine core1 w13 (up st12 m13 n1 n2 n3) (upR oR12 m13) ?_
      have : nxt wn hn i 0 = (i : Int) + 1 := by unfold nxt; simp [hc']
      rw [this]; exact o13
    · have hc' : ¬ i % wn < wn - 1 := by have : ¬ ((i % wn : Nat) : Int) < (wn : Int) - 1 := hc; omega
      refine core1 w12 st12 oR12 ?_
      have : nxt wn hn i 0 = -1 := by unfold nxt; simp [hc']
      rw [this]; exact o12
  have ei : M = i := by omega
  subst ei
  have T0 : TownE M 0 E := by rw [← hMM]; rw [← hMM] at hG; exact hG.town (by omega) (by omega)
  have t0l := T0.len
  clear hX hge hi hG hEl
  -- some roads more
  refine loop_i (fun c t w5 => ∃ (k : Nat) (g : GT) (E : List R3), k ≤ 3 ∧ c = 4 - k ∧ t = ((k : Int), ()) ∧ TowSt W w5 A g N E [] ∧ TownE M k E ∧ Own w5 W.heap.size tAGraph (gcs (⟨none, 0, 0⟩, ⟨none, 0, 0⟩, ⟨none, 0, 0⟩, ())) ∧ (∀ a, g.1.b = some a → a.block ≠ W.heap.size) ∧ (∀ a, g.2.1.b = some a → a.block ≠ W.heap.size) ∧ g.2.2.1.b = none) 4
    ⟨0, g, E, by omega, rfl, rfl, st, T0, oR, nR, nR2, eb3⟩ ?_
  clear st oR nR nR2 eb3 T0 t0l g E
  rintro c t w5 ⟨k, g, E, hk, rfl, rfl, st, T, oR, nR, nR2, eb3⟩ X hX
  dsimp only
  refine at_i (hlk st.kp) (by decide) (by decide) (by decide) (by decide) fun x10 w6 xa xb k6 => ?_
  have st6 := st.keep k6
  have oR6 := oR.mod k6 id
  have tl := T.len
  refine cond_d (fun hlt => ?_) (fun hge => ?_)
  · have hk' : k < 3 := by have : (k : Int) < x10 := hlt; omega
    have d6 : Keep w6 w6.drew := Mod.drew (Mod.refl _ w6)
    have st6d := st6.keep d6
    have lit1 : ∀ {wx : World}, Own wx A tAGraph (gcs g) → wx.cell? ((⟨A, 0, none⟩ : Addr).add 1) = some (sv g.2.1) := fun h => by rw [addr_lit, h.cell]; rfl
    refine ld1_i (k := .slice) g.2.1 (lit1 st6d.own) ?_
    rw [w64 (n := (4 : Int) + (k : Int)) (by omega) (by omega), w64 (n := (8 : Int) + (k : Int)) (by omega) (by omega), w64 (n := (12 : Int) + (k : Int)) (by omega) (by omega)]
    refine at_i (hlk st6d.kp) (by omega) (by omega) (by omega) (by omega) fun x11 w7 a0 a1 k7 => ?_
    have st7 := st6d.keep k7
    refine ⟨lit1 st7.own, at_i (hlk st7.kp) (by omega) (by omega) (by omega) (by omega) fun x12 w8 b0 b1 k8 => ?_⟩
    have st8 := st7.keep k8
    refine ⟨lit1 st8.own, at_i (hlk st8.kp) (by omega) (by omega) (by decide) (by decide) fun x13 w9 c0 c1 k9 => ?_⟩
    have st9 := st8.keep k9
    refine ⟨lit1 st9.own, ?_⟩
    rw [w64 (n := (1 : Int) + x13) (by omega) (by omega)]
    have oR9 := (((oR6.mod d6 id).mod k7 id).mod k8 id).mod k9 id
    refine st9.pushE (x := (x11, x12, (1 : Int) + x13)) (by omega) fun w21 s st21 m21 f21 => ?_
    rw [wi_ k (by omega)]
    refine hX (4 - (k + 1)) _ _ (by omega) ⟨k + 1, _, _, hk', rfl, rfl, st21, T.push ⟨⟨a0, a1⟩, ⟨b0, b1⟩, by show 1 ≤ (1 : Int) + x13; omega, by show (1 : Int) + x13 ≤ 40; omega⟩, oR9.mod m21 fun hh => ?_, nR, fun a ha e => ?_, eb3⟩
    · rcases hh with e | ⟨a, ha, e⟩
      · omega
      · exact nR2 a ha e.symm
    · rcases f21 a ha with h1 | h1
      · exact nR2 a h1 e
      · have := oR9.lt; omega
  have T3 := T.more hk
  clear hX hge
  intro J hJ
  have core : ∀ w9 g E, TowSt W w9 A g N E [] → TownE M 3 E → E ≠ [] → Own w9 W.heap.size tAGraph (gcs (⟨none, 0, 0⟩, ⟨none, 0, 0⟩, ⟨none, 0, 0⟩, ())) → (∀ a, g.1.b = some a → a.block ≠ W.heap.size) → (∀ a, g.2.1.b = some a → a.block ≠ W.heap.size) → g.2.2.1.b = none → J () w9 := by
    clear st st6 oR oR6 nR nR2 eb3 T T3 tl g E
    intro w9 g E st T hE1 oR nR nR2 eb3
    apply hJ
    have tl := T.len
    have B0 : TownB E 0 0 [] := ⟨by simp, by simp, List.Pairwise.nil, by simp⟩
    have cells : ∀ {wx : World} {g' : GT}, Own wx A tAGraph (gcs g') → _ := fun {wx g'} h => own3 (x := sv g'.1) (y := sv g'.2.1) (z := sv g'.2.2.1) h
    refine loop_i (fun c t w5 => ∃ (a : Nat) (g : GT) (B : List (Int × Int)), a ≤ E.length ∧ c = E.length - a ∧ t = ((a : Int), ()) ∧ TowSt W w5 A g N E B ∧ TownB E a 0 B ∧ Own w5 W.heap.size tAGraph (gcs (⟨none, 0, 0⟩, ⟨none, 0, 0⟩, ⟨none, 0, 0⟩, ())) ∧ (∀ a, g.1.b = some a → a.block ≠ W.heap.size) ∧ (∀ a, g.2.1.b = some a → a.block ≠ W.heap.size) ∧ (∀ a, g.2.2.1.b = some a → a.block ≠ W.heap.size)) E.length
      ⟨0, g, [], Nat.zero_le _, rfl, rfl, st, B0, oR, nR, nR2, fun a ha => by rw [eb3] at ha; cases ha⟩ ?_
    clear st oR nR nR2 eb3 B0 g
    rintro c t w5 ⟨a, g, B, ha, rfl, rfl, st, hB, oR, nR, nR2, nR3⟩ X hX
    dsimp only
    have el := st.ve.len
    refine ld1_i (k := .slice) g.2.1 (cells st.own).2.1 (cond_d (fun hlt => ?_) (fun hge => ?_))
    · have ha' : a < E.length := by omega
      refine loop_i (fun c t w6 => ∃ (b : Nat) (g : GT) (B : List (Int × Int)), b ≤ E.length ∧ c = E.length - b ∧ t = ((b : Int), ()) ∧ TowSt W w6 A g N E B ∧ TownB E a b B ∧ Own w6 W.heap.size tAGraph (gcs (⟨none, 0, 0⟩, ⟨none, 0, 0⟩, ⟨none, 0, 0⟩, ())) ∧ (∀ a, g.1.b = some a → a.block ≠ W.heap.size) ∧ (∀ a, g.2.1.b = some a → a.block ≠ W.heap.size) ∧ (∀ a, g.2.2.1.b = some a → a.block ≠ W.heap.size)) E.length
        ⟨0, g, B, Nat.zero_le _, rfl, rfl, st, hB, oR, nR, nR2, nR3⟩ ?_
      clear st oR nR nR2 nR3 hB el g B hlt
      rintro c t w6 ⟨b, g, B, hb, rfl, rfl, st, hB, oR, nR, nR2, nR3⟩ Y hY
      dsimp only
      have el := st.ve.len
      refine ld1_i (k := .slice) g.2.1 (cells st.own).2.1 (cond_d (fun hlt2 => ?_) (fun hge2 => ?_))
      · have hb' : b < E.length := by omega
        have d6 : Keep w6 w6.drew := Mod.drew (Mod.refl _ w6)
        have st6 := st.keep d6
        have oR6 := oR.mod d6 id
        have hga := List.getElem?_eq_getElem ha'
        have hgb := List.getElem?_eq_getElem hb'
        have ea : E.getD a (0, 0, 0) = E[a] := by rw [List.getD_eq_getElem?_getD, hga]; rfl
        have eb : E.getD b (0, 0, 0) = E[b] := by rw [List.getD_eq_getElem?_getD, hgb]; rfl
        obtain ⟨p, hp, _, _, ct, _⟩ := rd3 (st6.ve.rd lenR3') hga
        obtain ⟨q, hq, _, cf, _, _⟩ := rd3 (st6.ve.rd lenR3') hgb
        rw [Int.toNat_natCast, Int.toNat_natCast]
        refine ld1_i (k := .slice) g.2.1 (cells st6.own).2.1 ⟨⟨by omega, by omega⟩, onSome_i hp (ld1_i (k := .int .i64) _ ct (ld1_i (k := .slice) g.2.1 (cells st6.own).2.1 ⟨⟨by omega, by omega⟩, onSome_i hq (ld1_i (k := .int .i64) _ cf ?_)⟩))⟩
        rw [wi_ b (by omega)]
        refine cond_i (fun he => ?_) (fun he => ?_)
        · have he' : (E.getD a (0, 0, 0)).2.1 = (E.getD b (0, 0, 0)).1 := by rw [ea, eb]; simpa using he
          rw [w64 (n := (7 : Int) * (a : Int)) (by omega) (by omega), w64 (n := (7 : Int) * (a : Int) + (b : Int)) (by omega) (by omega)]
          refine at_i (hlk st6.kp) (by omega) (by omega) (by decide) (by decide) fun x16 w7 _ _ k7 => ?_
          have st7 := st6.keep k7
          have oR7 := oR6.mod k7 id
          refine cond_i (fun _ => ?_) (fun _ => ?_)
          · have bl := hB.len
            have fl := List.length_filter_le (fun i => decide ((E.getD i.toNat (0, 0, 0)).1 = (E.getD a (0, 0, 0)).2.1)) (ints b)
            rw [ints_len] at fl
            refine ld1_i (k := .slice) g.2.2.1 (cells st7.own).2.2 ?_
            refine st7.pushB (x := ((a : Int), (b : Int))) (by omega) fun w8 s st8 m8 f8 => ?_
            refine hY _ _ _ (by omega) ⟨b + 1, _, _, hb', rfl, rfl, st8, hB.push ha' hb' he', oR7.mod m8 fun hh => ?_, nR, nR2, fun c hc e => ?_⟩
            · rcases hh with e | ⟨c, hc, e⟩
              · omega
              · exact nR3 c hc e.symm
            · rcases f8 c hc with h1 | h1
              · exact nR3 c h1 e
              · have := oR7.lt; omega
          · exact hY _ _ _ (by omega) ⟨b + 1, g, B, hb', rfl, rfl, st7, hB.skip, oR7, nR, nR2, nR3⟩
        · exact hY _ _ _ (by omega) ⟨b + 1, g, B, hb', rfl, rfl, st6, hB.skip, oR6, nR, nR2, nR3⟩
      · have eb : b = E.length := by omega
        subst eb
        rw [wi_ a (by omega)]
        exact hX _ _ _ (by omega) ⟨a + 1, g, B, ha', rfl, rfl, st, hB.next T, oR, nR, nR2, nR3⟩
    · have ea : a = E.length := by omega
      subst ea
      refine ldN_i (l := [.slice, .slice, .slice]) g (own_g (g := g) st.own) ?_
      refine agg_store (vs := gcs g) oR size_AGraph rfl (gone1 g) fun w43 o43 m43 _ => ?_
      refine ldN_i (l := [.slice, .slice, .slice]) g (own_g (g := g) o43) ?_
      refine hQ g ⟨N, E, B⟩ w43 ⟨(st.vn.mod m43 fun a ha e => nR a ha e).rd lenP, (st.ve.mod m43 fun a ha e => nR2 a ha e).rd lenR3', (st.vb.mod m43 fun a ha e => nR3 a ha e).rd lenP⟩ (town_ok ⟨by omega, by omega⟩ hNl hNo T hE1 hB) (by show N.length ≤ 16; omega) (st.kp.fresh m43 fun k e => by rw [show k = W.heap.size from e]; exact Nat.le_refl _)
  have el := st6.ve.len
  refine ld1_i (k := .slice) g.2.1 (by rw [addr_lit, st6.own.cell]; rfl) (cond_i (fun h0 => ?_) (fun h0 => ?_))
  · have hl0 : ((g.2.1.l : Nat) : Int) = 0 := by simpa using h0
    have hE0 : E = [] := List.eq_nil_of_length_eq_zero (by omega)
    refine alloc_i fun w7 o7 k7 z7 => ?_
    have st7 := st6.keep k7
    have oR7 := oR6.mod k7 id
    rw [show ((⟨A, 0, none⟩ : Addr).add 1) = ⟨A, 1, none⟩ by rw [addr_lit]]
    have hAlt := st6.own.lt
    refine storeD1_i (o := 1) (v := .slice (some ⟨w6.heap.size, 0, none⟩) 1 1) st7.own size_sEdge (by simp) rfl rfl fun w8 o8 m8 _ => ?_
    have ve : Vec w7 tEdge 3 eR3 ⟨some ⟨w6.heap.size, 0, none⟩, 1, 1⟩ [((0 : Int), (0 : Int), (3 : Int))] := Vec.new lenR3' [_] o7 (by simp [maxLen])
    refine core w8 (g.1, ⟨some ⟨w6.heap.size, 0, none⟩, 1, 1⟩, g.2.2.1, ()) [((0 : Int), (0 : Int), (3 : Int))] ⟨o8, st7.vn.mod m8 fun a ha e => (st7.n1 a ha).1 e, ve.mod m8 fun a ha e => ?_, st7.vb.mod m8 fun a ha e => (st7.n3 a ha).1 e, st7.n1, fun a ha => ?_, st7.n3, fun a b ha hb => ?_, st7.n13, fun a b ha hb => ?_, st7.lowA, st7.kp.fresh m8 fun k e => by rw [show k = A from e]; exact st7.lowA⟩ (TownE.one (by omega)) (by simp) (oR7.mod m8 fun e => by omega) nR (fun a ha e => ?_) eb3
    · cases ha; have e' : w6.heap.size = A := e; omega
    · cases ha; exact ⟨by show w6.heap.size ≠ A; omega, st6.kp.size⟩
    · cases hb; have := st6.vn.lt ha; show a.block ≠ w6.heap.size; omega
    · rw [eb3] at hb; cases hb
    · cases ha; have e' : w6.heap.size = W.heap.size := e; have := oR6.lt; omega
  · have hE0 : E ≠ [] := fun h => by
      have h1 : ¬ ((g.2.1.l : Nat) : Int) = 0 := by simpa using h0
      rw [h] at el; simp at el; omega
    exact core w6 g E st6 T3 hE0 oR6 nR nR2 eb3
/-- What is closed, by numbers. -/
theorem Shut_i {g : GT} {G : Gr} {l : Sl} {xs : List Int} {W : World} {Q : Sl → World → Prop} (h : GvIs W g G) (ok : OkG G) (hl : Rd W l 1 eI xs) (hlen : xs.length ≤ 1000) (hQ : ∀ s c w', c.length = G.m → Vec w' tBool 1 eB s c → Keep W w' → (∀ b, s.b = some b → W.heap.size ≤ b.block) → Q s w') : F_ref24_Shut g l W Q := by
  unfold F_ref24_Shut
  have hm := ok.m1
  have hel : g.2.1.l = G.m := h.ed.len
  have hll := hl.len
  refine alloc_i fun w1 o1 k1 z1 => ?_
  refine ld1_i (k := .slice) g.2.1 (own3 o1).2.1 ?_
  rw [hel]
  refine make_i elem_sBool (enc := eB) false rfl lenB (by omega) (Int.le_refl _) (by omega) (by omega) fun w2 v2 k2 => ?_
  simp only [Int.toNat_natCast] at v2 ⊢
  have K2 := k1.tr k2
  refine loop_i (fun c t w3 => ∃ (i : Nat) (bs : List Bool), i ≤ xs.length ∧ c = xs.length - i ∧ t = ((i : Int), ()) ∧ Vec w3 tBool 1 eB ⟨some ⟨w1.heap.size, 0, none⟩, G.m, G.m⟩ bs ∧ bs.length = G.m ∧ Keep W w3) xs.length ⟨0, _, Nat.zero_le _, rfl, rfl, v2, by simp, K2⟩ ?_
  rintro c t w3 ⟨i, bs, hi, rfl, rfl, v3, hbl, k3⟩ X hX
  dsimp only
  refine cond_d (fun hlt => ?_) (fun hge => hQ _ bs w3 hbl v3 k3 fun b hb => by cases hb; exact k1.size)
  have hi' : i < xs.length := by omega
  have hget := List.getElem?_eq_getElem hi'
  generalize xs[i] = x at *
  obtain ⟨p, hp, hc⟩ := rd_cell (k := .int .i64) (e := fun x => x) (hl.mod k3 eI_ne fun _ _ => id) hget
  rw [Int.toNat_natCast]
  refine ⟨⟨by omega, hlt⟩, onSome_i hp (ld1_i (k := .int .i64) x hc ?_)⟩
  refine Round24_i (by omega) (by omega) fun y y0 y1 => ⟨⟨y0, y1⟩, onSome_i rfl ?_⟩
  refine v3.store lenB rfl (i := y.toNat) (by omega) true (v := .bool true) rfl size_Bool (oneB _) fun w4 v4 m4 _ => ?_
  have m4' : Mod (fun k => k = w1.heap.size) w3 w4 := m4
  refine hX (xs.length - (i + 1)) _ _ (by omega) ⟨i + 1, _, hi', rfl, ?_, v4, by rw [List.length_set]; exact hbl, k3.fresh m4' fun k e => by rw [show k = w1.heap.size from e]; exact k1.size⟩
  rw [wi_ i (by omega)]
end Go.Proofs.YtljiijljeipdhaaGreat
