/-
  Chapter 16's laws: what 'LevelsTell' computes is true.
-/
import Derived.Test.YtdmcgddefnnbmaaQ4
import Derived.Test.YtdmcgddefnnbmaaQ1
import Derived.Test.YtdmcgddefnnbmaaA3
import Derived.Test.YtdmcgddefnnbmaaQ3
namespace Go.Proofs.Ytdmcgddefnnbmaa
open Go Go.Den

theorem awake16_i {w : World} {Q : Bool → World → Prop} (hQ : ∀ w', Keep w w' → Q true w') : F_law16_awake w Q := by
  unfold F_law16_awake
  simp only [allocD]
  have k1 := Keep.alloc w (.cells #[Value.int .i64 (0 : Int), Value.int .i64 (1 : Int), Value.int .i64 (0 : Int), Value.int .i64 (1 : Int), Value.int .i64 (2 : Int), Value.int .i64 (0 : Int)] 55)
  refine built_i (by omega) (by omega) (rd_r3 (rows := [(0, 1, 0), (1, 2, 0)]) rfl 2 rfl (by omega)) (by simp) fun w2 H RH g s hH _ _ k2 _ => ?_
  have K2 := k1.tr k2
  have e1 : rankOf (bldN (3 : Int).toNat (netOf 3 [(0, 1, 0), (1, 2, 0)]) (3 : Int).toNat).rank 0 = 0 := by decide +kernel
  have e2 : rankOf (bldN (3 : Int).toNat (netOf 3 [(0, 1, 0), (1, 2, 0)]) (3 : Int).toNat).rank 5 = -1 := by decide +kernel
  have e3 : (upL (bldN (3 : Int).toNat (netOf 3 [(0, 1, 0), (1, 2, 0)]) (3 : Int).toNat).all (bldN (3 : Int).toNat (netOf 3 [(0, 1, 0), (1, 2, 0)]) (3 : Int).toNat).rank 0).length = 1 := by decide +kernel
  have e4 : 2 ≤ (bldN (3 : Int).toNat (netOf 3 [(0, 1, 0), (1, 2, 0)]) (3 : Int).toNat).all.length := by decide +kernel
  generalize (bldN (3 : Int).toNat (netOf 3 [(0, 1, 0), (1, 2, 0)]) (3 : Int).toNat).all = A at *
  generalize (bldN (3 : Int).toNat (netOf 3 [(0, 1, 0), (1, 2, 0)]) (3 : Int).toNat).rank = R at *
  refine cond_i (fun h => by simp at h) (fun _ => ?_)
  refine Rank_i hH ?_
  rw [e1]
  refine cond_i (fun _ => ?_) (fun h => by simp at h)
  refine Rank_i hH ?_
  rw [e2]
  refine cond_i (fun _ => ?_) (fun h => by simp at h)
  refine Up_i hH fun s1 w5 v5 k5 _ => ?_
  have l5 := v5.len
  refine cond_i (fun _ => ?_) (fun h => by rw [l5, e3] at h; simp at h)
  have h5 := hH.keep k5
  refine onSome_i rfl (ld1_i (k := .ptr) (some ⟨H.N.g, 0, none⟩) h5.c0 ?_)
  refine All_i h5.net (by have := h5.net.ok.len h5.net.sz; omega) fun s2 w6 v6 k6 _ => ?_
  have l6 := v6.len
  refine cond_d (fun _ => ?_) (fun h => by omega)
  refine Build_none ?_
  refine cond_i (fun _ => ?_) (fun h => by simp at h)
  refine Rank_none ?_
  refine cond_i (fun _ => ?_) (fun h => by simp at h)
  refine Up_none fun w9 k9 => ?_
  refine cond_i (fun _ => ?_) (fun h => by simp at h)
  refine Cuts_none ?_
  exact hQ w9 (((K2.tr k5).tr k6).tr k9)

theorem LevelsTell_i {n odd : Int} {l : Sl} {rows : List R3} {W : World} {Q : Bool → World → Prop} (hl : Rd W l 3 eR3 rows) (hQ : ∀ w', Keep W w' → Q true w') : F_law16_LevelsTell n l odd W Q := by
  unfold F_law16_LevelsTell
  have hll := hl.len
  refine cond_d (fun h => awake16_i hQ) (fun h1 => ?_)
  refine cond_d (fun h => awake16_i hQ) (fun h2 => ?_)
  refine cond_d (fun h => awake16_i hQ) (fun h3 => ?_)
  refine built_i (by omega) (by omega) hl (by omega) fun w4 H RH g s hH hRH hR k4 fH => ?_
  refine cond_i (fun h => by simp at h) (fun _ => ?_)
  refine made_i (by omega) (by omega) (hl.mod k4 eR3_ne fun _ _ => id) (by omega) fun w5 N g5 s5 hN _ _ k5 _ _ => ?_
  have hwt := fun e he => (netOf_w (n := n) (rows := rows) e he).1
  generalize netOf n rows = L at *
  obtain ⟨m, rfl⟩ : ∃ m : Nat, n = (m : Int) := ⟨n.toNat, by omega⟩
  simp only [Int.toNat_natCast] at *
  have hLl := hN.ok.len hN.sz
  have hAl := hH.net.ok.len hH.net.sz
  have hm512 := hN.sz
  generalize hA : (bldN m L m).all = A at *
  generalize hRk : (bldN m L m).rank = R at *
  refine cond_i (fun h => by simp at h) (fun _ => ?_)
  have d5 : Keep w5 w5.drew := Mod.drew (Mod.refl _ w5)
  have K5 := k5.tr d5
  refine Build_i (hN.keep d5) (by omega) hwt fun w6 H6 _ k6 _ => ?_
  refine cond_i (fun h => by simp at h) (fun _ => ?_)
  have K46 := K5.tr k6
  have hR6 := hR.keep K46
  refine onSome_i rfl (ld1_i (k := .slice) s hR6.c1 ?_)
  refine All_i ((hN.keep d5).keep k6) (by omega) fun s2 w7 v7 k7 _ => ?_
  have hR7 := hR6.keep k7
  refine ⟨hR7.c1, ?_⟩
  refine ArcsSame_i (v7.rd lenA) (hR7.vec.rd lenA) (by omega) fun r w8 k8 hr => ?_
  refine cond_i (fun hb => by rw [hr.2 rfl] at hb; cases hb) (fun _ => ?_)
  have K48 := (K46.tr k7).tr k8
  have h8 := hH.keep K48
  have r8 := hRH.keep K48
  have K8 := k4.tr K48
  refine loop_i (fun c t w9 => ∃ (i : Nat), i ≤ m ∧ c = m - i ∧ t = ((i : Int), ()) ∧ Keep w8 w9) m ⟨0, Nat.zero_le _, rfl, rfl, Mod.refl _ _⟩ ?_
  rintro c t w9 ⟨i, hi, rfl, rfl, k9⟩ X hX
  dsimp only
  have h9 := h8.keep k9
  have r9 := r8.keep k9
  refine cond_d (fun hlt => ?_) (fun hge => ?_)
  · have hi' : i < m := by omega
    have ul : (upL A R (i : Int)).length < 1099511627776 := by
      have h1 : (upL A R (i : Int)).length ≤ (outL A (i : Int)).length := List.length_filter_le _ _
      have h2 := hH.net.ok.out_len (i : Int)
      omega
    have dl : (downL A R (i : Int)).length < 1099511627776 := by
      have h1 : (downL A R (i : Int)).length ≤ (inL A (i : Int)).length := List.length_filter_le _ _
      have h2 := hH.net.ok.in_len (i : Int)
      omega
    refine Rank_i h9 (rRank_i r9 ?_)
    refine cond_i (fun h => by simp at h) (fun _ => ?_)
    refine Up_i h9 fun s3 w12 v12 k12 _ => ?_
    refine rUp_i (r9.keep k12) (by omega) (by omega) fun s4 w13 v13 k13 _ => ?_
    refine ArcsSame_i ((v12.mod k13 fun _ _ => id).rd lenA) (v13.rd lenA) ul fun r w14 k14 hr => ?_
    refine cond_i (fun hb => by rw [hr.2 rfl] at hb; cases hb) (fun _ => ?_)
    have K14 := (k12.tr k13).tr k14
    refine Down_i (h9.keep K14) fun s5 w15 v15 k15 _ => ?_
    refine rDown_i ((r9.keep K14).keep k15) (by omega) (by omega) fun s6 w16 v16 k16 _ => ?_
    refine ArcsSame_i ((v15.mod k16 fun _ _ => id).rd lenA) (v16.rd lenA) dl fun r w17 k17 hr => ?_
    refine cond_i (fun hb => by rw [hr.2 rfl] at hb; cases hb) (fun _ => ?_)
    rw [wi_ i (by omega)]
    exact hX _ _ _ (by omega) ⟨i + 1, hi', rfl, rfl, (((k9.tr K14).tr k15).tr k16).tr k17⟩
  · have d9 : Keep w9 w9.drew := Mod.drew (Mod.refl _ w9)
    have hd := h9.keep d9
    have rd := r9.keep d9
    refine onSome_i rfl (ld1_i (k := .ptr) (some ⟨H.N.g, 0, none⟩) hd.c0 (onSome_i rfl (ld1_i (k := .ptr) (some ⟨RH.g, 0, none⟩) rd.c0 (onSome_i rfl (ld1_i (k := .slice) RH.s rd.net.c1 ?_)))))
    refine All_i hd.net (by omega) fun s8 w18 v18 k18 _ => ?_
    have r18 := rd.keep k18
    refine ⟨r18.net.c1, r18.c0, ?_⟩
    refine ArcsSame_i (v18.rd lenA) (r18.net.vec.rd lenA) (by omega) fun r w19 k19 hr => ?_
    refine cond_i (fun _ => ?_) (fun hb => by rw [hr.2 rfl] at hb; cases hb)
    have h19 := (hd.keep k18).keep k19
    have r19 := r18.keep k19
    refine Cuts_i h19 fun w20 k20 => ?_
    have r20 := r19.keep k20
    refine rCuts_i r20 ?_
    refine cond_i (fun _ => ?_) (fun h => by simp at h)
    have h20 := h19.keep k20
    refine Rank_i h20 (rRank_i r20 ?_)
    refine cond_i (fun _ => ?_) (fun h => by simp at h)
    refine onSome_i rfl (ld1_i (k := .ptr) (some ⟨H.N.g, 0, none⟩) h20.c0 (Len_i h20.net ?_))
    refine cond_i (fun _ => ?_) (fun h => by simp at h)
    exact awake16_i fun w' k' => hQ w' ((((((K8.tr k9).tr d9).tr k18).tr k19).tr k20).tr k')
end Go.Proofs.Ytdmcgddefnnbmaa

/-
  Chapter 16's laws: what 'LevelsOwn' computes is true.
-/
namespace Go.Proofs.Ytdmcgddefnnbmaa
open Go Go.Den

section
variable {w : World} {N : NetS} {n : Nat} {A : List Arc}
/-- An arc that is there, in a block of its own. -/
theorem arc_then {f t : Int} {y : Arc} {K : Option Addr → Bool → World → Prop} (h : NetIs w N n A) (hy : findL A f t = some y) (hK : ∀ b w', Keep w w' → Own w' b tArc (eArc y) → K (some ⟨b, 0, none⟩) true w') :
    F_net_Net_Arc (some ⟨N.g, 0, none⟩) f t w fun (t5 : Int × Int × Int × Int × Unit) (b4 : Bool) w7 =>
      allocD w7 #[Value.int .i64 (0 : Int), Value.int .i64 (0 : Int), Value.int .i64 (0 : Int), Value.int .i64 (0 : Int)] tArc fun a14 w8 =>
      storeD Try.prog tArc a14 (Value.agg #[(Value.int .i64 t5.1), (Value.int .i64 t5.2.1), (Value.int .i64 t5.2.2.1), (Value.int .i64 t5.2.2.2.1)]) w8 fun w9 => K (some a14) b4 w9 := by
  refine Arc_i h (fun x w7 hx k7 => ?_) (fun w7 hx _ => by rw [hy] at hx; cases hx)
  rw [hy] at hx; cases hx
  simp only [allocD]
  exact arc_copy fun w9 k9 o9 _ => hK _ w9 (k7.tr k9) o9
theorem then_arc {f t : Int} {y : Arc} {K : Option Addr → Bool → World → Prop} (h : NetIs w N n A) (hy : findL A f t = some y) (hK : ∀ b w', Keep w w' → Own w' b tArc (eArc y) → K (some ⟨b, 0, none⟩) true w') :
    F_net_Net_Arc (some ⟨N.g, 0, none⟩) f t (w.alloc (.cells #[Value.int .i64 (0 : Int), Value.int .i64 (0 : Int), Value.int .i64 (0 : Int), Value.int .i64 (0 : Int)] tArc)) fun (t6 : Int × Int × Int × Int × Unit) (b5 : Bool) w11 =>
      storeD Try.prog tArc ⟨w.heap.size, 0, none⟩ (Value.agg #[(Value.int .i64 t6.1), (Value.int .i64 t6.2.1), (Value.int .i64 t6.2.2.1), (Value.int .i64 t6.2.2.2.1)]) w11 fun w12 => K (some ⟨w.heap.size, 0, none⟩) b5 w12 := by
  have k := Keep.alloc w (.cells #[Value.int .i64 (0 : Int), Value.int .i64 (0 : Int), Value.int .i64 (0 : Int), Value.int .i64 (0 : Int)] tArc)
  have o : Own (w.alloc (.cells #[Value.int .i64 (0 : Int), Value.int .i64 (0 : Int), Value.int .i64 (0 : Int), Value.int .i64 (0 : Int)] tArc)) w.heap.size tArc (eArc ⟨0, 0, 0, 0⟩) := Own.alloc' w _ _
  refine Arc_i (h.keep k) (fun x w7 hx k7 => ?_) (fun w7 hx _ => by rw [hy] at hx; cases hx)
  rw [hy] at hx; cases hx
  exact zero_store (o.mod k7 id) rfl fun w9 o9 m9 => hK _ w9 ((k.tr k7).fresh m9 fun b e => by rw [show b = w.heap.size from e]; exact Nat.le_refl _) o9
end

theorem LevelsOwn_i {n : Int} {l : Sl} {rows : List R3} {W : World} {Q : Bool → World → Prop} (hl : Rd W l 3 eR3 rows) (hQ : ∀ w', Keep W w' → Q true w') : F_law16_LevelsOwn n l W Q := by
  unfold F_law16_LevelsOwn
  have hll := hl.len
  refine cond_d (fun h => awake16_i hQ) (fun h1 => ?_)
  refine cond_d (fun h => awake16_i hQ) (fun h2 => ?_)
  refine cond_d (fun h => awake16_i hQ) (fun h3 => ?_)
  refine built_i (by omega) (by omega) hl (by omega) fun w4 H RH g s hH hRH hR k4 fH => ?_
  refine cond_i (fun h => by simp at h) (fun _ => ?_)
  have hwt := fun e he => (netOf_w (n := n) (rows := rows) e he).1
  have hmt := fun e he => (netOf_w (n := n) (rows := rows) e he).2
  generalize netOf n rows = L at *
  obtain ⟨m, rfl⟩ : ∃ m : Nat, n = (m : Int) := ⟨n.toNat, by omega⟩
  simp only [Int.toNat_natCast] at *
  have hL := hR.ok
  have hLl := hL.len hR.sz
  have hAl := hH.net.ok.len hH.net.sz
  have own := bld_own hL hwt hmt (by omega) m (Nat.le_refl m)
  have inv := bld_inv hL hwt m (Nat.le_refl m)
  have hne : ∀ e ∈ (bldN m L m).all, rankOf (bldN m L m).rank e.f ≠ rankOf (bldN m L m).rank e.t := fun e he => by
    have := hH.net.ok.may e he
    exact rank_ne hL hwt this.1 this.2.1 this.2.2.1 this.2.2.2.1 this.2.2.2.2.1
  have hlen := updown_len hH.net.ok (bldN m L m).rank hne
  have wA := inv.wa
  have pb := pow_bnd (k := m) (by omega)
  generalize hAe : (bldN m L m).all = A at *
  generalize (bldN m L m).rank = R at *
  have hA := hH.net.ok
  have first : ∀ e ∈ L, ∃ y, findL A e.f e.t = some y ∧ y.w ≤ e.w ∧ (y.m < 0 → y = e) := fun e he => by
    obtain ⟨y, hy, e1, e2, e3⟩ := own.light e he
    rw [hAe] at hy
    refine ⟨y, by rw [← e1, ← e2]; exact findL_eq hA.srt hy, e3, fun hm => ?_⟩
    have hyL := own.own y (by rw [hAe]; exact hy) hm
    have f1 := findL_eq hL.srt hyL
    have f2 := findL_eq hL.srt he
    rw [e1, e2, f2] at f1
    exact (Option.some.inj f1).symm
  have halves : ∀ e ∈ A, 0 ≤ e.m → ∃ a b, findL A e.f e.m = some a ∧ findL A e.m e.t = some b ∧ a.w + b.w = e.w ∧ a ∈ A ∧ b ∈ A := fun e he hm => by
    obtain ⟨_, ⟨a, ha, b, hb, a1, a2, b1, b2, hab⟩, _⟩ := own.half e (by rw [hAe]; exact he) hm
    rw [hAe] at ha hb
    exact ⟨a, b, by rw [← a1, ← a2]; exact findL_eq hA.srt ha, by rw [← b1, ← b2]; exact findL_eq hA.srt hb, hab, ha, hb⟩
  refine loop_i (fun c t w5 => ∃ (i : Nat), i ≤ L.length ∧ c = L.length - i ∧ t = ((i : Int), ()) ∧ Keep w4 w5) L.length ⟨0, Nat.zero_le _, rfl, rfl, Mod.refl _ _⟩ ?_
  rintro c t w5 ⟨i, hi, rfl, rfl, k5⟩ X hX
  dsimp only
  have h5 := hH.keep k5
  have r5 := hR.keep k5
  have sl5 := r5.vec.len
  refine onSome_i rfl (ld1_i (k := .slice) s r5.c1 ?_)
  refine cond_d (fun hlt => ?_) (fun hge => ?_)
  · have hi' : i < L.length := by omega
    have hget := List.getElem?_eq_getElem hi'
    have hmem := List.getElem_mem hi'
    generalize L[i] = e at *
    obtain ⟨y, hy, hyw, hym⟩ := first e hmem
    have bi : 0 ≤ (i : Int) ∧ (i : Int) < (s.l : Int) := ⟨by omega, hlt⟩
    intro J hJ
    have go : ∀ b w', Keep w5 w' → Own w' b tArc (eArc y) → J (some ⟨b, 0, none⟩, true, ()) w' := fun b w' k' o' => by
      apply hJ
      dsimp only
      refine cond_i (fun h => by simp at h) (fun _ => ?_)
      have d' : Keep w' w'.drew := Mod.drew (Mod.refl _ w')
      have od := o'.mod d' id
      have rd := (r5.keep k').keep d'
      obtain ⟨y0, y1, y2, y3⟩ := own_arc od
      obtain ⟨p, hp, hh⟩ := rd_tup (rd.vec.rd lenA) hget
      rw [Int.toNat_natCast]
      have next : X (IntKind.wrap .i64 ((i : Int) + 1), ()) w'.drew := by
        rw [wi_ i (by omega)]
        exact hX _ _ _ (by omega) ⟨i + 1, hi', rfl, rfl, (k5.tr k').tr d'⟩
      refine onSome_i rfl (ld1_i (k := .int .i64) y.w y2 (onSome_i rfl (ld1_i (k := .slice) s rd.c1 ⟨bi, onSome_i hp (ld1_i (k := .int .i64) e.w hh.2.2.1 ?_)⟩)))
      refine cond_d (fun h => absurd hyw (by show ¬ y.w ≤ e.w; omega)) (fun _ => ?_)
      refine onSome_i rfl (ld1_i (k := .int .i64) y.m y3 ?_)
      refine cond_d (fun hm => ?_) (fun _ => next)
      have := hym hm
      subst this
      refine onSome_i rfl (ldN_i (tupA y) (own_all od) (onSome_i rfl (ld1_i (k := .slice) s rd.c1 ⟨bi, onSome_i hp (ldN_i (tupA y) hh ?_)⟩)))
      exact cond_i (fun h => by simp at h) (fun _ => next)
    have d5 : Keep w5 w5.drew := Mod.drew (Mod.refl _ w5)
    have hd := h5.keep d5
    have rd := r5.keep d5
    obtain ⟨p, hp, hh⟩ := rd_tup (rd.vec.rd lenA) hget
    rw [Int.toNat_natCast]
    refine onSome_i rfl (ld1_i (k := .ptr) (some ⟨H.N.g, 0, none⟩) hd.c0 (onSome_i rfl (ld1_i (k := .slice) s rd.c1 ⟨bi, onSome_i hp (ld1_i (k := .int .i64) e.f hh.1 ?_)⟩)))
    refine onSome_i rfl (ld1_i (k := .slice) s rd.c1 ⟨bi, onSome_i hp (ld1_i (k := .int .i64) e.t hh.2.1 ⟨?_, ?_⟩)⟩)
    · exact arc_then (K := fun a b w' => J (a, b, ()) w') hd.net hy fun b w' k' o' => go b w' (d5.tr k') o'
    · have kz := Keep.alloc w5.drew (.cells #[Value.int .i64 (0 : Int), Value.int .i64 (0 : Int), Value.int .i64 (0 : Int), Value.int .i64 (0 : Int)] tArc)
      have hz := hd.keep kz
      have rz := rd.keep kz
      obtain ⟨p', hp', hh'⟩ := rd_tup (rz.vec.rd lenA) hget
      rw [hp] at hp'; cases hp'
      refine ⟨hh'.2.1, rz.c1, hh'.1, rz.c1, hz.c0, ?_⟩
      exact then_arc (K := fun a b w' => J (a, b, ()) w') hd.net hy fun b w' k' o' => go b w' (d5.tr k') o'
  · refine onSome_i rfl (ld1_i (k := .ptr) (some ⟨H.N.g, 0, none⟩) h5.c0 ?_)
    refine All_i h5.net (by omega) fun s6 w13 v13 k13 _ => ?_
    have h13 := h5.keep k13
    have sl6 := v13.len
    refine loop_i (fun c t w14 => ∃ (i : Nat), i ≤ A.length ∧ c = A.length - i ∧ t = ((cutsL (A.take i) : Int), (i : Int), ()) ∧ Keep w13 w14) A.length ⟨0, Nat.zero_le _, rfl, rfl, Mod.refl _ _⟩ ?_
    rintro c t w14 ⟨i, hi, rfl, rfl, k14⟩ Y hY
    dsimp only
    have h14 := h13.keep k14
    refine cond_d (fun hlt => ?_) (fun hge => ?_)
    · have hi' : i < A.length := by omega
      have hget := List.getElem?_eq_getElem hi'
      have hmem := List.getElem_mem hi'
      have hct := cutsL_take hi'
      have hcl : cutsL (A.take i) ≤ A.length := Nat.le_trans (List.length_filter_le _ _) (by rw [List.length_take]; omega)
      generalize A[i] = e at *
      have bi : 0 ≤ (i : Int) ∧ (i : Int) < (s6.l : Int) := ⟨by omega, hlt⟩
      obtain ⟨p, hp, hh⟩ := rd_tup ((v13.mod k14 fun _ _ => id).rd lenA) hget
      rw [Int.toNat_natCast]
      refine ⟨bi, onSome_i hp (ld1_i (k := .int .i64) e.m hh.2.2.2.1 ?_)⟩
      refine cond_d (fun hm => ?_) (fun hm => ?_)
      · have hm' : e.m < 0 := hm
        rw [wi_ i (by omega)]
        exact hY _ _ _ (by omega) ⟨i + 1, hi', rfl, by rw [hct, if_neg (by omega)]; rfl, k14⟩
      · have hm' : 0 ≤ e.m := by
          have : ¬ e.m < 0 := hm
          omega
        obtain ⟨a, b, fa, fb, hab, haA, hbA⟩ := halves e hmem hm'
        have wa := wA a haA
        have wb := wA b hbA
        have wa0 := (hA.may a haA).2.2.2.2.2.1
        have wb0 := (hA.may b hbA).2.2.2.2.2.1
        intro J2 hJ2
        have go2 : ∀ b1 w', Keep w14 w' → Own w' b1 tArc (eArc a) → J2 (some ⟨b1, 0, none⟩, true, ()) w' := fun b1 w15 k15 o15 => by
          apply hJ2
          dsimp only
          intro J3 hJ3
          have go3 : ∀ b2 w', Keep w15 w' → Own w' b2 tArc (eArc b) → J3 (some ⟨b2, 0, none⟩, true, ()) w' := fun b2 w16 k16 o16 => by
            apply hJ3
            dsimp only
            refine cond_i (fun h => by simp at h) (fun _ => cond_i (fun h => by simp at h) (fun _ => ?_))
            have d16 : Keep w16 w16.drew := Mod.drew (Mod.refl _ w16)
            have K16 := k16.tr d16
            obtain ⟨p, hp, hh⟩ := rd_tup ((((v13.mod k14 fun _ _ => id).mod k15 fun _ _ => id).mod K16 fun _ _ => id).rd lenA) hget
            refine onSome_i rfl (ld1_i (k := .int .i64) a.w (own_arc (o15.mod K16 id)).2.2.1 (onSome_i rfl (ld1_i (k := .int .i64) b.w (own_arc (o16.mod d16 id)).2.2.1 ⟨bi, onSome_i hp (ld1_i (k := .int .i64) e.w hh.2.2.1 ?_)⟩)))
            rw [w64 (n := a.w + b.w) (by omega) (by omega), hab]
            refine cond_i (fun h => absurd h (by show ¬ ((e.w != e.w) = true); simp)) (fun _ => ?_)
            rw [wi_ i (by omega), wi_ (cutsL (A.take i)) (by omega)]
            exact hY _ _ _ (by omega) ⟨i + 1, hi', rfl, by rw [hct, if_pos hm'], (k14.tr k15).tr K16⟩
          have d15 : Keep w15 w15.drew := Mod.drew (Mod.refl _ w15)
          have hd := (h14.keep k15).keep d15
          obtain ⟨p, hp, hh⟩ := rd_tup ((((v13.mod k14 fun _ _ => id).mod k15 fun _ _ => id).mod d15 fun _ _ => id).rd lenA) hget
          refine onSome_i rfl (ld1_i (k := .ptr) (some ⟨H.N.g, 0, none⟩) hd.c0 ⟨bi, onSome_i hp (ld1_i (k := .int .i64) e.m hh.2.2.2.1 ⟨bi, onSome_i hp (ld1_i (k := .int .i64) e.t hh.2.1 ⟨?_, ?_⟩)⟩)⟩)
          · exact arc_then (K := fun a b w' => J3 (a, b, ()) w') hd.net fb fun b w' k' o' => go3 b w' (d15.tr k') o'
          · have kz := Keep.alloc w15.drew (.cells #[Value.int .i64 (0 : Int), Value.int .i64 (0 : Int), Value.int .i64 (0 : Int), Value.int .i64 (0 : Int)] tArc)
            have hz := hd.keep kz
            obtain ⟨p', hp', hh'⟩ := rd_tup (((((v13.mod k14 fun _ _ => id).mod k15 fun _ _ => id).mod d15 fun _ _ => id).mod kz fun _ _ => id).rd lenA) hget
            rw [hp] at hp'; cases hp'
            refine ⟨hh'.2.1, hh'.2.2.2.1, hz.c0, ?_⟩
            exact then_arc (K := fun a b w' => J3 (a, b, ()) w') hd.net fb fun b w' k' o' => go3 b w' (d15.tr k') o'
        have d14 : Keep w14 w14.drew := Mod.drew (Mod.refl _ w14)
        have hd := h14.keep d14
        obtain ⟨p, hp, hh⟩ := rd_tup (((v13.mod k14 fun _ _ => id).mod d14 fun _ _ => id).rd lenA) hget
        refine onSome_i rfl (ld1_i (k := .ptr) (some ⟨H.N.g, 0, none⟩) hd.c0 ⟨bi, onSome_i hp (ld1_i (k := .int .i64) e.f hh.1 ⟨bi, onSome_i hp (ld1_i (k := .int .i64) e.m hh.2.2.2.1 ⟨?_, ?_⟩)⟩)⟩)
        · exact arc_then (K := fun a b w' => J2 (a, b, ()) w') hd.net fa fun b w' k' o' => go2 b w' (d14.tr k') o'
        · have kz := Keep.alloc w14.drew (.cells #[Value.int .i64 (0 : Int), Value.int .i64 (0 : Int), Value.int .i64 (0 : Int), Value.int .i64 (0 : Int)] tArc)
          have hz := hd.keep kz
          obtain ⟨p', hp', hh'⟩ := rd_tup ((((v13.mod k14 fun _ _ => id).mod d14 fun _ _ => id).mod kz fun _ _ => id).rd lenA) hget
          rw [hp] at hp'; cases hp'
          refine ⟨hh'.2.2.2.1, hh'.1, hz.c0, ?_⟩
          exact then_arc (K := fun a b w' => J2 (a, b, ()) w') hd.net fa fun b w' k' o' => go2 b w' (d14.tr k') o'
    · have e : i = A.length := by omega
      subst e
      rw [List.take_length]
      have small : ∀ (F : Int → List Arc), (∀ v, (F v).length ≤ m) → ∀ j : Nat, ((List.range j).map fun v : Nat => (F (v : Int)).length).sum ≤ j * m := fun F hF j => by
        induction j with
        | zero => simp
        | succ j ih =>
          rw [List.range_succ, List.map_append, List.sum_append]
          have := hF (j : Int)
          simp only [List.map_cons, List.map_nil, List.sum_cons, List.sum_nil]
          rw [Nat.add_mul]; omega
      have us := small (fun v => upL A R v) fun v => Nat.le_trans (List.length_filter_le _ _) (hA.out_len v)
      have ds := small (fun v => downL A R v) fun v => Nat.le_trans (List.length_filter_le _ _) (hA.in_len v)
      refine loop_i (fun c t w29 => ∃ (j : Nat), j ≤ m ∧ c = m - j ∧ t = (((((List.range j).map fun v : Nat => (upL A R (v : Int)).length).sum + ((List.range j).map fun v : Nat => (downL A R (v : Int)).length).sum : Nat) : Int), (j : Int), ()) ∧ Keep w14 w29) m ⟨0, Nat.zero_le _, rfl, rfl, Mod.refl _ _⟩ ?_
      rintro c t w29 ⟨j, hj, rfl, rfl, k29⟩ Z hZ
      dsimp only
      have h29 := h14.keep k29
      refine cond_d (fun hlt => ?_) (fun hge => ?_)
      · have hj' : j < m := by omega
        refine Up_i h29 fun s7 w30 v30 k30 _ => ?_
        refine Down_i (h29.keep k30) fun s8 w31 v31 k31 _ => ?_
        have l7 := v30.len
        have l8 := v31.len
        have u0 := us j
        have u1 := us (j + 1)
        have d0 := ds j
        have d1 := ds (j + 1)
        have mm : (j + 1) * m ≤ 20 * 20 := Nat.mul_le_mul (by omega) (by omega)
        have mm0 : j * m ≤ 20 * 20 := Nat.mul_le_mul (by omega) (by omega)
        have eu : ((List.range (j + 1)).map fun v : Nat => (upL A R (v : Int)).length).sum = ((List.range j).map fun v : Nat => (upL A R (v : Int)).length).sum + s7.l := by
          rw [List.range_succ, List.map_append, List.sum_append, l7]; simp
        have ed : ((List.range (j + 1)).map fun v : Nat => (downL A R (v : Int)).length).sum = ((List.range j).map fun v : Nat => (downL A R (v : Int)).length).sum + s8.l := by
          rw [List.range_succ, List.map_append, List.sum_append, l8]; simp
        have u1' : ((List.range (j + 1)).map fun v : Nat => (upL A R (v : Int)).length).sum ≤ (j + 1) * m := u1
        have d1' : ((List.range (j + 1)).map fun v : Nat => (downL A R (v : Int)).length).sum ≤ (j + 1) * m := d1
        rw [eu] at u1'
        rw [ed] at d1'
        generalize ((List.range j).map fun v : Nat => (upL A R (v : Int)).length).sum = SU at *
        generalize ((List.range j).map fun v : Nat => (downL A R (v : Int)).length).sum = SD at *
        rw [w64 (n := ((SU + SD : Nat) : Int) + (s7.l : Int)) (by omega) (by omega), w64 (n := ((SU + SD : Nat) : Int) + (s7.l : Int) + (s8.l : Int)) (by omega) (by omega), wi_ j (by omega)]
        refine hZ _ _ _ (by omega) ⟨j + 1, hj', rfl, ?_, (k29.tr k30).tr k31⟩
        rw [eu, ed]
        congr 1
        omega
      · have ej : j = m := by omega
        subst ej
        refine Cuts_i h29 fun w32 k32 => ?_
        refine cond_i (fun _ => ?_) (fun h => by simp at h)
        refine cond_i (fun _ => ?_) (fun h => by rw [hlen, sl6] at h; simp at h)
        exact awake16_i fun w' k' => hQ w' ((((((k4.tr k5).tr k13).tr k14).tr k29).tr k32).tr k')
end Go.Proofs.Ytdmcgddefnnbmaa

/-
  The words that each of the seat's proofs opens with.
-/
namespace Go.Proofs.Ytdmcgddefnnbmaa
open Go Go.Den Go.ChangeShapes Go.WideShapes Go.ChangeAt Go.RowKit

theorem own : ownKnob Try.prog.godebug = none := by kernel_rfl
theorem laid : laidOutB Try.prog = true := by kernel_rfl
theorem call_of {g : FuncId} {T : Tr} (hS : Sound Try.prog g T) {args : List Value} {W : World} (h : T args W fun v w' => v = .bool true ∧ Since W w') : Calls Try.prog g args.toArray W fun e w' => e = .returned (.bool true) ∧ Since W w' :=
  (hS args W _ h).mono fun e w' ⟨v, he, hv, hs⟩ => ⟨by rw [he, hv], hs⟩
def arcOf : List Int → Arc
  | [f, t, w, m] => ⟨f, t, w, m⟩
  | _ => ⟨0, 0, 0, 0⟩
theorem arcOf_enc {r : List Int} (h : r.length = 4) : eArc (arcOf r) = r.map (Value.int .i64) := by
  match r, h with
  | [f, t, w, m], _ => rfl
set_option maxRecDepth 100000 in
theorem arg_arcs {H : Type} {enc : TypeId × Value → H} {W : World} {t b : Nat} {v : Value} {d : DataW H} {ps : List MemPlace} (ht : Try.prog.underlying t = some (.slice tArc)) (hval : Value.okWide Try.prog W .any b t v) (h : DataW.Trod enc Try.prog W 0 (fun _ => true) true t v d ps) :
    ∃ (s : Sl) (xs : List Arc), v = .slice s.b s.l s.c ∧ Rd W s 4 eArc xs := by
  obtain ⟨s, rows, rfl, hr, hl⟩ := arg_rows (m := 4) ht (by kernel_rfl) (by kernel_rfl) hval h
  exact ⟨s, rows.map arcOf, rfl, hr.map arcOf fun r hr => arcOf_enc (hl r hr)⟩
end Go.Proofs.Ytdmcgddefnnbmaa

/-
  Arguments: rows of three, of five, and whole numbers.
-/
namespace Go.Proofs.Ytdmcgddefnnbmaa
open Go Go.Den Go.ChangeShapes Go.WideShapes Go.ChangeAt Go.RowKit

def r3Of : List Int → R3
  | [x, y, z] => (x, y, z)
  | _ => (0, 0, 0)
theorem r3Of_enc {r : List Int} (h : r.length = 3) : eR3 (r3Of r) = r.map (Value.int .i64) := by
  match r, h with
  | [x, y, z], _ => rfl
def i1Of : List Int → Int
  | [x] => x
  | _ => 0
theorem i1Of_enc {r : List Int} (h : r.length = 1) : eI (i1Of r) = r.map (Value.int .i64) := by
  match r, h with
  | [x], _ => rfl
set_option maxRecDepth 100000 in
theorem arg_r3 {H : Type} {enc : TypeId × Value → H} {W : World} {t b : Nat} {v : Value} {d : DataW H} {ps : List MemPlace} (ht : Try.prog.underlying t = some (.slice tArr3)) (hval : Value.okWide Try.prog W .any b t v) (h : DataW.Trod enc Try.prog W 0 (fun _ => true) true t v d ps) :
    ∃ (s : Sl) (xs : List R3), v = .slice s.b s.l s.c ∧ Rd W s 3 eR3 xs := by
  obtain ⟨s, rows, rfl, hr, hl⟩ := arg_rows (m := 3) ht (by kernel_rfl) (by kernel_rfl) hval h
  exact ⟨s, rows.map r3Of, rfl, hr.map r3Of fun r hr => r3Of_enc (hl r hr)⟩
set_option maxRecDepth 100000 in
theorem arg_is {H : Type} {enc : TypeId × Value → H} {W : World} {t b : Nat} {v : Value} {d : DataW H} {ps : List MemPlace} (ht : Try.prog.underlying t = some (.slice tInt)) (hval : Value.okWide Try.prog W .any b t v) (h : DataW.Trod enc Try.prog W 0 (fun _ => true) true t v d ps) :
    ∃ (s : Sl) (xs : List Int), v = .slice s.b s.l s.c ∧ Rd W s 1 eI xs := by
  obtain ⟨s, rows, rfl, hr, hl⟩ := arg_rows (m := 1) ht (by kernel_rfl) (by kernel_rfl) hval h
  exact ⟨s, rows.map i1Of, rfl, hr.map i1Of fun r hr => i1Of_enc (hl r hr)⟩
end Go.Proofs.Ytdmcgddefnnbmaa

/-
  Arguments: bools.
-/
namespace Go.Proofs.Ytdmcgddefnnbmaa
open Go Go.Den Go.ChangeShapes Go.WideShapes Go.ChangeAt Go.RowKit
set_option maxRecDepth 100000 in
theorem arg_bs {H : Type} {enc : TypeId × Value → H} {W : World} {t b : Nat} {v : Value} {d : DataW H} {ps : List MemPlace} (ht : Try.prog.underlying t = some (.slice tBool)) (hval : Value.okWide Try.prog W .any b t v) (h : DataW.Trod enc Try.prog W 0 (fun _ => true) true t v d ps) :
    ∃ (s : Sl) (xs : List Bool), v = .slice s.b s.l s.c ∧ Rd W s 1 eB xs := arg_bools ht (by kernel_rfl) (by kernel_rfl) hval h
end Go.Proofs.Ytdmcgddefnnbmaa
