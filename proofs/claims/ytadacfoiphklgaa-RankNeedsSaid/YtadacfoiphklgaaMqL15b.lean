/-
  Chapter 15's laws: RankKeeps and RankNeeds.
-/
import Derived.Test.YtadacfoiphklgaaMqL15
namespace Go.Proofs.Ytadacfoiphklgaa
open Go Go.Den

theorem RankKeeps_i {n a : Int} {l : Sl} {rows : List R3} {W : World} {Q : Bool → World → Prop} (hl : Rd W l 3 eR3 rows) (hQ : ∀ w', Keep W w' → Q true w') : F_law15_RankKeeps n l a W Q := by
  unfold F_law15_RankKeeps
  have hll := hl.len
  refine cond_d (fun h => awake15_i hQ) (fun h1 => ?_)
  refine cond_d (fun h => awake15_i hQ) (fun h2 => ?_)
  refine cond_d (fun h => awake15_i hQ) (fun h3 => ?_)
  refine made_i (by omega) (by omega) hl (by omega) fun w4 N g sR hN hR hap k4 fN fR => ?_
  have hw20 := arcsOf_w (n := n) (rows := rows)
  generalize netOf n rows = L at *
  obtain ⟨m, rfl⟩ : ∃ m : Nat, n = (m : Int) := ⟨n.toNat, by omega⟩
  simp only [Int.toNat_natCast] at *
  refine cond_i (fun h => by simp at h) (fun _ => ?_)
  refine Round_i (by omega) (by omega) ?_
  have hv0 := Int.emod_nonneg a (b := (m : Int)) (by omega)
  have hv1 := Int.emod_lt_of_pos a (b := (m : Int)) (by omega)
  generalize a % (m : Int) = v at *
  have hL := hN.ok
  have hLl := hL.len hN.sz
  have hw : ∀ e ∈ L, e.w ≤ 549755813888 := fun e he => by have := hw20 e he; omega
  have hmay := short_may hL hw hv0 hv1
  have hsb := short_bnd hL hN.sz v
  refine Shortcuts_i hN fun s1 w6 v6 k6 f6 => ?_
  have hN6 := hN.keep k6
  have hR6 := hR.keep k6
  have K6 := k4.tr k6
  refine rCopy_i hR6 (by omega) fun w7 g' s7 hC7 k7 f7 => ?_
  refine rCut_i hC7 (by omega) fun w8 s8 hC8 m8 f8 => ?_
  have gl : w6.heap.size ≤ g' := f7 g' (.inl rfl)
  have K8 : Keep w6 w8 := k7.fresh m8 fun k e => by rw [show k = g' from e]; exact gl
  have sl1 := v6.len
  refine loop_i (fun c t w9 => ∃ (i : Nat) (so : Sl), i ≤ (shortL m L v).length ∧ c = (shortL m L v).length - i ∧ t = ((i : Int), ()) ∧ RNetIs w9 g' so m (putAll m (cutL L v) ((shortL m L v).take i)) ∧ Keep w6 w9) (shortL m L v).length
    ⟨0, s8, Nat.zero_le _, rfl, rfl, by simpa [putAll] using hC8, K8⟩ ?_
  rintro c t w9 ⟨i, so, hi, rfl, rfl, hC9, K9⟩ X hX
  dsimp only
  refine cond_d (fun hlt => ?_) (fun hge => ?_)
  · have hi' : i < (shortL m L v).length := by omega
    obtain ⟨p, hp, hh⟩ := rd_tup ((v6.mod K9 fun _ _ => id).rd lenA) (List.getElem?_eq_getElem hi')
    obtain ⟨xm, x1, x2, x3⟩ := hmay _ (List.getElem_mem hi')
    have tk := putAll_snoc m (cutL L v) ((shortL m L v).take i) (shortL m L v)[i]
    rw [← List.take_succ_eq_append_getElem hi'] at tk
    generalize (shortL m L v)[i] = x at *
    have bnd : 0 ≤ (i : Int) ∧ (i : Int) < (s1.l : Int) := ⟨by omega, hlt⟩
    rw [Int.toNat_natCast]
    refine ⟨bnd, onSome_i hp (ld1_i (k := .int .i64) x.m hh.2.2.2.1 ?_)⟩
    refine cond_i (fun h => by rw [x1] at h; simp at h) (fun _ => ?_)
    refine ⟨bnd, onSome_i hp (ld1_i (k := .int .i64) x.f hh.1 ?_)⟩
    refine cond_i (fun h => absurd (by simpa using h) x2) (fun _ => ?_)
    refine ⟨bnd, onSome_i hp (ld1_i (k := .int .i64) x.t hh.2.1 ?_)⟩
    refine cond_i (fun h => absurd (by simpa using h) x3) (fun _ => ?_)
    refine ⟨bnd, onSome_i hp (ldN_i (tupA x) hh ?_)⟩
    refine rPut_i hC9 (by have := hC9.ok.len hC9.sz; omega) fun w10 s10 hC10 m10 f10 => ?_
    rw [wi_ i (by omega)]
    exact hX _ _ _ (by omega) ⟨i + 1, s10, hi', rfl, rfl, by rw [tk]; exact hC10, K9.fresh m10 fun k e => by rw [show k = g' from e]; exact gl⟩
  · have e : i = (shortL m L v).length := by omega
    subst e
    rw [List.take_length] at hC9
    have hR9 := hR6.keep K9
    have hN9 := hN6.keep K9
    have hOl := hC9.ok.len hC9.sz
    refine loop_i (fun c t w11 => ∃ (i : Nat), i ≤ m ∧ c = m - i ∧ t = ((i : Int), ()) ∧ Keep w9 w11) m ⟨0, Nat.zero_le _, rfl, rfl, Mod.refl _ _⟩ ?_
    rintro c t w11 ⟨i, hi, rfl, rfl, k11⟩ Y hY
    dsimp only
    refine cond_d (fun hlt => ?_) (fun hge => ?_)
    · have hi' : i < m := by omega
      refine rAll_i (hR9.keep k11) (by omega) fun s2 w12 xs v12 l12 d12 _ k12 _ => ?_
      refine rAll_i ((hC9.keep k11).keep k12) (by omega) fun s3 w13 ys v13 l13 d13 _ k13 _ => ?_
      have v2 := v12.mod k13 fun _ _ => id
      have sl2 := v12.len
      have sl3 := v13.len
      refine loop_i (fun c t w14 => ∃ (j : Nat), j ≤ m ∧ c = m - j ∧ t = ((j : Int), ()) ∧ Keep w13 w14) m ⟨0, Nat.zero_le _, rfl, rfl, Mod.refl _ _⟩ ?_
      rintro c t w14 ⟨j, hj, rfl, rfl, k14⟩ Z hZ
      dsimp only
      refine cond_d (fun hlt => ?_) (fun hge => ?_)
      · have hj' : j < m := by omega
        have d14 : Keep w14 w14.drew := Mod.drew (Mod.refl _ w14)
        have K14 := k14.tr d14
        have next : Z (IntKind.wrap .i64 ((j : Int) + 1), ()) w14.drew := by
          rw [wi_ j (by omega)]
          exact hZ _ _ _ (by omega) ⟨j + 1, hj', rfl, rfl, K14⟩
        refine cond_i (fun hiv => ?_) (fun _ => next)
        refine cond_i (fun hjv => ?_) (fun _ => next)
        have hiv' : (i : Int) ≠ v := by simpa using hiv
        have hjv' : (j : Int) ≠ v := by simpa using hjv
        have hx := List.getElem?_eq_getElem (show j < xs.length by omega)
        have hy := List.getElem?_eq_getElem (show j < ys.length by omega)
        generalize xs[j] = x at *
        generalize ys[j] = y at *
        obtain ⟨p, hp, hc⟩ := rd_cell (k := .int .i64) (e := fun x => x) ((v2.mod K14 fun _ _ => id).rd lenI) hx
        obtain ⟨p', hp', hc'⟩ := rd_cell (k := .int .i64) (e := fun x => x) ((v13.mod K14 fun _ _ => id).rd lenI) hy
        rw [Int.toNat_natCast]
        refine ⟨⟨by omega, by omega⟩, onSome_i hp (ld1_i (k := .int .i64) x hc ⟨⟨by omega, by omega⟩, onSome_i hp' (ld1_i (k := .int .i64) y hc' ?_)⟩)⟩
        have hxy := keeps_dist hL hw hv0 hv1 hiv' hjv' (d12 (by omega) (by omega) j x hx) (d13 (by omega) (by omega) j y hy)
        subst hxy
        exact cond_i (fun h => absurd h (by show ¬ ((x != x) = true); simp)) (fun _ => next)
      · rw [wi_ i (by omega)]
        exact hY _ _ _ (by omega) ⟨i + 1, hi', rfl, rfl, ((k11.tr k12).tr k13).tr k14⟩
    · refine Worth_i (hN9.keep k11) fun w15 k15 => ?_
      have hR15 := (hR9.keep k11).keep k15
      refine rIn_i hR15 (by omega) fun s4 w16 v16 k16 _ => ?_
      refine rOut_i (hR15.keep k16) (by omega) fun s5 w17 v17 k17 _ => ?_
      have l4 := v16.len
      have l5 := v17.len
      have il := hL.in_len v
      have ol := hL.out_len v
      have : (worthL m L v == (IntKind.wrap .i64 ((IntKind.wrap .i64 ((s1.l : Int) - (s4.l : Int))) - (s5.l : Int)))) = true := by
        rw [sl1, l4, l5, w64 (n := ((shortL m L v).length : Int) - ((inL L v).length : Int)) (by omega) (by omega), w64 (by omega) (by omega), beq_iff_eq]; rfl
      rw [this]
      exact awake15_i fun w' k' => hQ w' ((((((K6.tr K9).tr k11).tr k15).tr k16).tr k17).tr k')

theorem RankNeeds_i {n a : Int} {l : Sl} {rows : List R3} {W : World} {Q : Bool → World → Prop} (hl : Rd W l 3 eR3 rows) (hQ : ∀ w', Keep W w' → Q true w') : F_law15_RankNeeds n l a W Q := by
  unfold F_law15_RankNeeds
  have hll := hl.len
  refine cond_d (fun h => awake15_i hQ) (fun h1 => ?_)
  refine cond_d (fun h => awake15_i hQ) (fun h2 => ?_)
  refine cond_d (fun h => awake15_i hQ) (fun h3 => ?_)
  refine made_i (by omega) (by omega) hl (by omega) fun w4 N g sR hN hR hap k4 fN fR => ?_
  have hw20 := arcsOf_w (n := n) (rows := rows)
  generalize netOf n rows = L at *
  obtain ⟨m, rfl⟩ : ∃ m : Nat, n = (m : Int) := ⟨n.toNat, by omega⟩
  simp only [Int.toNat_natCast] at *
  refine cond_i (fun h => by simp at h) (fun _ => ?_)
  refine Round_i (by omega) (by omega) ?_
  have hv0 := Int.emod_nonneg a (b := (m : Int)) (by omega)
  have hv1 := Int.emod_lt_of_pos a (b := (m : Int)) (by omega)
  generalize a % (m : Int) = v at *
  have hL := hN.ok
  have hLl := hL.len hN.sz
  have hsb := short_bnd hL hN.sz v
  have il := hL.in_len v
  have ol := hL.out_len v
  refine Shortcuts_i hN fun s1 w6 v6 k6 f6 => ?_
  have hR6 := hR.keep k6
  refine rIn_i hR6 (by omega) fun s2 w7 v7 k7 _ => ?_
  refine rOut_i (hR6.keep k7) (by omega) fun s3 w8 v8 k8 _ => ?_
  have hR8 := (hR6.keep k7).keep k8
  have K8 : Keep W w8 := ((k4.tr k6).tr k7).tr k8
  have u1 := (v6.mod k7 fun _ _ => id).mod k8 fun _ _ => id
  have u2 := v7.mod k8 fun _ _ => id
  refine rCopy_i hR8 (by omega) fun w9 g' s9 hC9 k9 f9 => ?_
  refine rCut_i hC9 (by omega) fun w10 s10 hC10 m10 f10 => ?_
  have gl : w8.heap.size ≤ g' := f9 g' (.inl rfl)
  have K10 : Keep w8 w10 := k9.fresh m10 fun k e => by rw [show k = g' from e]; exact gl
  have sl1 := v6.len
  have sl2 := v7.len
  have sl3 := v8.len
  have hcl : (cutL L v).length < 1099511627776 := by have := List.length_filter_le (fun x => decide (x.f ≠ v) && decide (x.t ≠ v)) L; unfold cutL; omega
  refine loop_i (fun c t w11 => ∃ (i : Nat), i ≤ (inL L v).length ∧ c = (inL L v).length - i ∧ t = (((((inL L v).take i).flatMap fun a => shortP m L v a (outL L v)).length : Int), (i : Int), ()) ∧ Keep w10 w11) (inL L v).length
    ⟨0, Nat.zero_le _, rfl, rfl, Mod.refl _ _⟩ ?_
  rintro c t w11 ⟨i, hi, rfl, rfl, k11⟩ X hX
  dsimp only
  refine cond_d (fun hlt => ?_) (fun hge => ?_)
  · have hi' : i < (inL L v).length := by omega
    have hia : (inL L v)[i]? = some (inL L v)[i] := List.getElem?_eq_getElem hi'
    have hamem := List.getElem_mem hi'
    have tki : ((inL L v).take (i + 1)).flatMap (fun a => shortP m L v a (outL L v)) = ((inL L v).take i).flatMap (fun a => shortP m L v a (outL L v)) ++ shortP m L v (inL L v)[i] (outL L v) := by
      rw [List.take_succ_eq_append_getElem hi', List.flatMap_append]; simp
    have split := fun j (hj : j < (outL L v).length) => short_split m L v hi' hj
    have other := fun j (hj : j < (outL L v).length) (x : Arc) hx => short_other (n := m) hL.srt hi' hj (x := x) hx
    generalize (inL L v)[i] = a at *
    obtain ⟨haL, hat⟩ := mem_inL.1 hamem
    obtain ⟨a0, a1, a2, a3, a4, a5, a6, _⟩ := hL.may a haL
    have hPl : (((inL L v).take i).flatMap fun a => shortP m L v a (outL L v)).length ≤ 262144 := by
      have e1 := short_len m L v ((inL L v).take i)
      have e2 : ((inL L v).take i).length * (outL L v).length ≤ 512 * 512 := Nat.mul_le_mul (by rw [List.length_take]; omega) (by omega)
      omega
    generalize ((inL L v).take i).flatMap (fun a => shortP m L v a (outL L v)) = P at *
    obtain ⟨p, hp, hh⟩ := rd_tup (((u2.mod K10 fun _ _ => id).mod k11 fun _ _ => id).rd lenA) hia
    rw [Int.toNat_natCast]
    refine ⟨⟨by omega, by omega⟩, onSome_i hp (ld1_i (k := .int .i64) a.f hh.1 ?_)⟩
    refine rAll_i (hC10.keep k11) hcl fun s4 w12 ds v12 l12 d12 _ k12 _ => ?_
    have sl4 := v12.len
    refine loop_i (fun c t w13 => ∃ (j : Nat), j ≤ (outL L v).length ∧ c = (outL L v).length - j ∧ t = (((P ++ shortP m L v a ((outL L v).take j)).length : Int), (j : Int), ()) ∧ Keep w12 w13) (outL L v).length
      ⟨0, Nat.zero_le _, rfl, by simp [shortP], Mod.refl _ _⟩ ?_
    rintro c t w13 ⟨j, hj, rfl, rfl, k13⟩ Y hY
    dsimp only
    refine cond_d (fun hlt => ?_) (fun hge => ?_)
    · have hj' : j < (outL L v).length := by omega
      have hjb : (outL L v)[j]? = some (outL L v)[j] := List.getElem?_eq_getElem hj'
      have hbmem := List.getElem_mem hj'
      have tkj : shortP m L v a ((outL L v).take (j + 1)) = shortP m L v a ((outL L v).take j) ++ (if needB m L v a (outL L v)[j] then [⟨a.f, (outL L v)[j].t, a.w + (outL L v)[j].w, v⟩] else []) := by
        rw [List.take_succ_eq_append_getElem hj', shortP_snoc]
      have hsp := split j hj'
      have hot := other j hj'
      have hRl := shortP_len m L v a ((outL L v).take j)
      have hRl2 : ((outL L v).take j).length ≤ 512 := by rw [List.length_take]; omega
      generalize (outL L v)[j] = b at *
      obtain ⟨hbL, hbf⟩ := mem_outL.1 hbmem
      obtain ⟨b0, b1, b2, b3, b4, b5, b6, _⟩ := hL.may b hbL
      generalize shortP m L v a ((outL L v).take j) = R at *
      have d13 : Keep w13 w13.drew := Mod.drew (Mod.refl _ w13)
      have K13 := k13.tr d13
      have KK : Keep w8 w13.drew := ((K10.tr k11).tr k12).tr K13
      obtain ⟨p, hp, hh⟩ := rd_tup ((u2.mod KK fun _ _ => id).rd lenA) hia
      obtain ⟨q, hq, hqh⟩ := rd_tup ((v8.mod KK fun _ _ => id).rd lenA) hjb
      rw [Int.toNat_natCast]
      refine ⟨⟨by omega, by omega⟩, onSome_i hp (ld1_i (k := .int .i64) a.f hh.1 ⟨⟨by omega, by omega⟩, onSome_i hq (ld1_i (k := .int .i64) b.t hqh.2.1 ?_)⟩)⟩
      refine ⟨⟨by omega, by omega⟩, onSome_i hp (ld1_i (k := .int .i64) a.w hh.2.2.1 ⟨⟨by omega, by omega⟩, onSome_i hq (ld1_i (k := .int .i64) b.w hqh.2.2.1 ?_)⟩)⟩
      have same : ∀ w', Keep w12 w' → needB m L v a b = false → Y (((P ++ R).length : Int), IntKind.wrap .i64 ((j : Int) + 1), ()) w' := fun w' k' hn' => by
        rw [wi_ j (by omega)]
        exact hY _ _ _ (by omega) ⟨j + 1, hj', rfl, by rw [tkj, hn', if_neg (by simp), List.append_nil], k'⟩
      refine cond_i (fun he => ?_) (fun hne => ?_)
      · exact same _ K13 (by unfold needB; simp at he; simp [he])
      have hne' : a.f ≠ b.t := by simpa using hne
      intro J hJ
      rw [w64 (n := a.w + b.w) (by omega) (by omega)] at *
      have look : needB m L v a b = false → J (((P ++ R).length : Int), ()) w13.drew := fun hn' => by
        apply hJ
        have hwit : witB m L a.f b.t v (a.w + b.w) 30 = true := by
          unfold needB at hn'
          cases hww : witB m L a.f b.t v (a.w + b.w) 30 with
          | true => rfl
          | false => rw [hww] at hn'; simp [hne'] at hn'
        obtain ⟨d', hd', hwk, _⟩ := wit_walk hL ⟨a0, a1⟩ ⟨b2, b3⟩ hwit
        have hafv : a.f ≠ v := by omega
        have hd := List.getElem?_eq_getElem (show b.t.toNat < ds.length by omega)
        have hdist := dist_cut hL hafv (d12 a0 a1 _ _ hd)
        rw [show ((b.t.toNat : Nat) : Int) = b.t by omega] at hdist
        generalize ds[b.t.toNat] = d at *
        have hdd : 0 ≤ d ∧ d ≤ a.w + b.w := by
          rcases hdist with ⟨_, h⟩ | ⟨h, _, h'⟩
          · exact absurd hwk (h d')
          · have := h' d' hwk; exact ⟨h, by omega⟩
        obtain ⟨p4, hp4, hc4⟩ := rd_cell (k := .int .i64) (e := fun x => x) ((v12.mod K13 fun _ _ => id).rd lenI) hd
        refine ⟨⟨b2, by omega⟩, onSome_i hp4 (ld1_i (k := .int .i64) d hc4 ?_)⟩
        refine cond_d (fun h => absurd hdd.1 (by show ¬ 0 ≤ d; omega)) (fun _ => ?_)
        refine ⟨⟨b2, by omega⟩, onSome_i hp4 (ld1_i (k := .int .i64) d hc4 ?_)⟩
        refine cond_d (fun h => absurd hdd.2 (by show ¬ d ≤ a.w + b.w; omega)) (fun _ => ?_)
        exact same _ K13 hn'
      have kth : (shortL m L v)[(P ++ R).length]? = ((if needB m L v a b then [⟨a.f, b.t, a.w + b.w, v⟩] else []) ++ (shortP m L v a ((outL L v).drop (j + 1)) ++ ((inL L v).drop (i + 1)).flatMap (fun a => shortP m L v a (outL L v))))[0]? := by
        rw [hsp, ← List.append_assoc, List.getElem?_append_right (Nat.le_refl _), Nat.sub_self]
      refine cond_d (fun hlt2 => ?_) (fun hge2 => ?_)
      · have hkl : (P ++ R).length < (shortL m L v).length := by omega
        have hget : (shortL m L v)[(P ++ R).length]? = some (shortL m L v)[(P ++ R).length] := List.getElem?_eq_getElem hkl
        generalize (shortL m L v)[(P ++ R).length] = x at *
        rw [hget] at kth
        obtain ⟨p1, hp1, hh1⟩ := rd_tup ((u1.mod KK fun _ _ => id).rd lenA) hget
        rw [Int.toNat_natCast]
        refine ⟨⟨by omega, hlt2⟩, onSome_i hp1 (ldN_i (tupA x) hh1 ?_)⟩
        cases hn' : needB m L v a b with
        | true =>
          rw [hn', if_pos rfl] at kth
          have hx : x = ⟨a.f, b.t, a.w + b.w, v⟩ := by simpa using kth
          subst hx
          refine cond_i (fun _ => ?_) (fun h => by simp at h)
          rw [wi_ (P ++ R).length (by rw [List.length_append]; omega), wi_ j (by omega)]
          exact hY _ _ _ (by omega) ⟨j + 1, hj', rfl, by rw [tkj, hn', if_pos rfl, ← List.append_assoc]; simp only [List.length_append, List.length_singleton], K13⟩
        | false =>
          rw [hn', if_neg (by simp), List.nil_append] at kth
          have hx : x ∈ shortP m L v a ((outL L v).drop (j + 1)) ++ ((inL L v).drop (i + 1)).flatMap (fun a => shortP m L v a (outL L v)) := List.mem_of_getElem? kth.symm
          have := hot x hx
          refine cond_i (fun h => absurd ?_ this) (fun _ => look hn')
          simp at h
          exact ⟨h.1, h.2.1⟩
      · refine look ?_
        cases hn' : needB m L v a b with
        | false => rfl
        | true =>
          rw [hn', if_pos rfl] at kth
          have : (shortL m L v)[(P ++ R).length]? = some ⟨a.f, b.t, a.w + b.w, v⟩ := by rw [kth]; rfl
          have := (List.getElem?_eq_some_iff.1 this).1
          omega
    · have e : j = (outL L v).length := by omega
      subst e
      rw [List.take_length, wi_ i (by omega)]
      exact hX _ _ _ (by omega) ⟨i + 1, hi', rfl, by rw [tki], (k11.tr k12).tr k13⟩
  · have e : i = (inL L v).length := by omega
    subst e
    rw [List.take_length]
    have : ((((inL L v).flatMap fun a => shortP m L v a (outL L v)).length : Int) == (s1.l : Int)) = true := by
      rw [sl1, beq_iff_eq]; rfl
    rw [this]
    exact awake15_i fun w' k' => hQ w' (((K8.tr K10).tr k11).tr k')
end Go.Proofs.Ytadacfoiphklgaa
