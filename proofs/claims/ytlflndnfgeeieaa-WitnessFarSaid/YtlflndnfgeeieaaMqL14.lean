/-
  Chapter 14's laws: what their functions compute is true.
-/
import Derived.Test.YtlflndnfgeeieaaFL14
import Derived.Test.YtlflndnfgeeieaaMqWit
import Derived.Test.YtlflndnfgeeieaaMqAll
namespace Go.Proofs.Ytlflndnfgeeieaa
open Go Go.Den

theorem lenR3 : ∀ r : R3, (eR3 r).length = 3 := fun _ => rfl
theorem rd_r3 {w : World} {rows : List R3} {cs : Array Value} (hc : cs.toList = rows.flatMap eR3) (n : Nat) (hn : n = rows.length) (hm : n ≤ 100) : Rd (w.alloc (.cells cs tArr3)) ⟨some ⟨w.heap.size, 0, none⟩, n, n⟩ 3 eR3 rows := by
  subst hn
  exact (Vec.lit w tArr3 eR3 lenR3 rows cs hc (by simp [maxLen]; omega)).rd lenR3

theorem awake14_i {w : World} {Q : Bool → World → Prop} (hQ : ∀ w', Keep w w' → Q true w') : F_law14_awake w Q := by
  unfold F_law14_awake
  simp only [allocD]
  have k1 := Keep.alloc w (.cells #[Value.int .i64 (0 : Int), Value.int .i64 (1 : Int), Value.int .i64 (0 : Int), Value.int .i64 (1 : Int), Value.int .i64 (2 : Int), Value.int .i64 (0 : Int), Value.int .i64 (0 : Int), Value.int .i64 (3 : Int), Value.int .i64 (4 : Int), Value.int .i64 (3 : Int), Value.int .i64 (2 : Int), Value.int .i64 (4 : Int)] 41)
  refine made_i (by omega) (by omega) (rd_r3 (rows := [(0, 1, 0), (1, 2, 0), (0, 3, 4), (3, 2, 4)]) rfl 4 rfl (by omega)) (by simp) fun w2 N g s hN _ _ k2 _ _ => ?_
  have K2 := k1.tr k2
  have e1 : farO (4 : Int).toNat (netOf 4 [(0, 1, 0), (1, 2, 0), (0, 3, 4), (3, 2, 4)]) 0 2 = some 2 := by decide +kernel
  have e2 : farO (4 : Int).toNat (netOf 4 [(0, 1, 0), (1, 2, 0), (0, 3, 4), (3, 2, 4)]) 2 0 = none := by decide +kernel
  have e3 : witB (4 : Int).toNat (netOf 4 [(0, 1, 0), (1, 2, 0), (0, 3, 4), (3, 2, 4)]) 0 2 1 10 30 = true := by decide +kernel
  have e4 : witB (4 : Int).toNat (netOf 4 [(0, 1, 0), (1, 2, 0), (0, 3, 4), (3, 2, 4)]) 0 2 1 9 30 = false := by decide +kernel
  have e5 : witB (4 : Int).toNat (netOf 4 [(0, 1, 0), (1, 2, 0), (0, 3, 4), (3, 2, 4)]) 0 2 1 10 2 = false := by decide +kernel
  have e6 : witB (4 : Int).toNat (netOf 4 [(0, 1, 0), (1, 2, 0), (0, 3, 4), (3, 2, 4)]) 0 0 1 0 1 = true := by decide +kernel
  generalize netOf 4 [(0, 1, 0), (1, 2, 0), (0, 3, 4), (3, 2, 4)] = L at *
  refine cond_i (fun h => by simp at h) (fun _ => ?_)
  refine Far_i hN fun w3 k3 => ?_
  rw [e1]
  refine Far_i (hN.keep k3) fun w4 k4 => ?_
  rw [e2]
  have h4 := (hN.keep k3).keep k4
  refine cond_i (fun _ => ?_) (fun h => by simp at h)
  refine cond_i (fun _ => ?_) (fun h => by simp at h)
  refine cond_i (fun _ => ?_) (fun h => by simp at h)
  refine Find_i h4 (by omega) fun w5 k5 => ?_
  rw [e3]
  refine cond_i (fun _ => ?_) (fun h => by simp at h)
  refine Find_i (h4.keep k5) (by omega) fun w6 k6 => ?_
  rw [e4]
  refine cond_i (fun _ => ?_) (fun h => by simp at h)
  refine Find_i ((h4.keep k5).keep k6) (by omega) fun w7 k7 => ?_
  rw [e5]
  refine cond_i (fun _ => ?_) (fun h => by simp at h)
  refine Find_i (((h4.keep k5).keep k6).keep k7) (by omega) fun w8 k8 => ?_
  rw [e6]
  refine cond_i (fun _ => ?_) (fun h => by simp at h)
  refine Find_none fun w9 k9 => ?_
  exact hQ w9 (((((((K2.tr k3).tr k4).tr k5).tr k6).tr k7).tr k8).tr k9)

theorem WitnessFar_i {n a b c : Int} {l : Sl} {rows : List R3} {W : World} {Q : Bool → World → Prop} (hl : Rd W l 3 eR3 rows) (hQ : ∀ w', Keep W w' → Q true w') : F_law14_WitnessFar n l a b c W Q := by
  unfold F_law14_WitnessFar
  have hll := hl.len
  refine cond_d (fun h => awake14_i hQ) (fun h1 => ?_)
  refine cond_d (fun h => awake14_i hQ) (fun h2 => ?_)
  refine cond_d (fun h => awake14_i hQ) (fun h3 => ?_)
  refine made_i (by omega) (by omega) hl (by omega) fun w4 N g sR hN _ _ k4 _ _ => ?_
  generalize netOf n rows = L at *
  obtain ⟨m, rfl⟩ : ∃ m : Nat, n = (m : Int) := ⟨n.toNat, by omega⟩
  simp only [Int.toNat_natCast] at *
  refine cond_i (fun h => by simp at h) (fun _ => ?_)
  have rng : ∀ x : Int, 0 ≤ x % (m : Int) ∧ x % (m : Int) < (m : Int) := fun x => ⟨Int.emod_nonneg x (by omega), Int.emod_lt_of_pos x (by omega)⟩
  refine Round_i (by omega) (by omega) (Round_i (by omega) (by omega) (Round_i (by omega) (by omega) ?_))
  have hx := rng a
  have hy := rng b
  have hz := rng c
  generalize a % (m : Int) = x at *
  generalize b % (m : Int) = y at *
  generalize c % (m : Int) = z at *
  have hL := hN.ok
  have f1 : farO m L x x = some 0 := (far_iff hL hx hx).2 ⟨.nil, fun d hd => hd.pos hL⟩
  have f2 : ∀ p q, farO m L x y = some p → farO m L y z = some q → ∃ r, farO m L x z = some r ∧ r ≤ p + q := fun p q hp hq => by
    obtain ⟨r, hr, h⟩ := far_reach hL hx hz (((far_iff hL hx hy).1 hp).1.trans ((far_iff hL hy hz).1 hq).1)
    exact ⟨r, h, hr⟩
  have f3 : ∀ e, findL L x y = some e → ∃ p, farO m L x y = some p ∧ p ≤ e.w := fun e he => by
    obtain ⟨h1, h2, h3⟩ := findL_some he
    have hw : Walk L (-1) x e.t (0 + e.w) := .snoc e .nil h1 h2 (by omega)
    rw [h3] at hw
    obtain ⟨p, hp, h⟩ := far_reach hL hx hy hw
    exact ⟨p, h, by omega⟩
  refine Far_i hN fun w8 k8 => ?_
  refine Far_i (hN.keep k8) fun w9 k9 => ?_
  refine Far_i ((hN.keep k8).keep k9) fun w10 k10 => ?_
  refine Far_i (((hN.keep k8).keep k9).keep k10) fun w11 k11 => ?_
  rw [f1]
  have h11 := (((hN.keep k8).keep k9).keep k10).keep k11
  have K11 : Keep W w11 := (((k4.tr k8).tr k9).tr k10).tr k11
  have bnd := fun p (hp : farO m L x y = some p) => far_bnd hL hp
  have bnd2 := fun p (hp : farO m L y z = some p) => far_bnd hL hp
  have mid : ∀ {w12 : World} (t : Arc) (K : World → Prop), Keep w11 w12 → (∀ w14, Keep W w14 → Own w14 w12.heap.size tArc (eArc t) → K w14) →
      storeD Try.prog 37 ⟨w12.heap.size, 0, none⟩ (arcV t) (w12.alloc (.cells #[Value.int .i64 0, Value.int .i64 0, Value.int .i64 0, Value.int .i64 0] 37)) K := fun {w12} t K k12 hK => by
    have k13 := Keep.alloc w12 (.cells #[Value.int .i64 0, Value.int .i64 0, Value.int .i64 0, Value.int .i64 0] 37)
    have o13 : Own (w12.alloc (.cells #[Value.int .i64 0, Value.int .i64 0, Value.int .i64 0, Value.int .i64 0] 37)) w12.heap.size 37 (eArc ⟨0, 0, 0, 0⟩) := Own.alloc' w12 _ _
    exact zero_store o13 rfl fun w14 o14 m14 => hK w14 ((K11.tr k12).tr (Mod.fresh k13 m14 fun k hk => by omega)) o14
  refine Arc_i h11 (fun t w12 ht k12 => mid t _ k12 fun w14 k14 o14 => ?_) (fun w12 ht k12 => mid ⟨0, 0, 0, 0⟩ _ k12 fun w14 k14 o14 => ?_)
  · obtain ⟨p, hp, hpw⟩ := f3 t ht
    have hpb := bnd p hp
    rw [hp]
    have fin : F_law14_awake w14 (fun b w' => Q b w') := awake14_i fun w' k => hQ w' (k14.tr k)
    have c2 : w14.cell? ((⟨w12.heap.size, 0, none⟩ : Addr).add 2) = some (.int .i64 t.w) := by rw [addr_lit, o14.cell]; rfl
    have tail : cond ((0 : Int) == 0) (cond true (cond (!true) (cond true (F_law14_awake w14 fun b w' => Q b w') (cond (p == 0) (F_law14_awake w14 fun b w' => Q b w') (Q false w14))) (cond true (ld1 (.int .i64) w14 ((⟨w12.heap.size, 0, none⟩ : Addr).add 2) fun (x8 : Int) =>
        cond (decide (p ≤ x8)) (cond true (F_law14_awake w14 fun b w' => Q b w') (cond (p == 0) (F_law14_awake w14 fun b w' => Q b w') (Q false w14))) (Q false w14)) (Q false w14))) (Q false w14)) (Q false w14) :=
      ld1_i (k := .int .i64) t.w c2 (cond_d (fun _ => fin) (fun h => absurd hpw h))
    refine cond_i (fun h => by simp at h) (fun _ => ?_)
    refine cond_i (fun _ => tail) (fun hq => ?_)
    cases hq' : farO m L y z with
    | none => rw [hq'] at hq; simp at hq
    | some q =>
      obtain ⟨r, hr, hrp⟩ := f2 p q hp hq'
      have hqb := bnd2 q hq'
      rw [hr]
      refine cond_i (fun _ => ?_) (fun h => by simp at h)
      refine cond_d (fun _ => tail) (fun h => absurd ?_ h)
      show r ≤ IntKind.wrap .i64 (p + q)
      rw [w64 (by omega) (by omega)]; exact hrp
  · have fin : F_law14_awake w14 (fun b w' => Q b w') := awake14_i fun w' k => hQ w' (k14.tr k)
    cases hp : farO m L x y with
    | none =>
      refine cond_i (fun _ => ?_) (fun h => by simp at h)
      exact fin
    | some p =>
      have hpb := bnd p hp
      refine cond_i (fun h => by simp at h) (fun _ => ?_)
      refine cond_i (fun _ => fin) (fun hq => ?_)
      cases hq' : farO m L y z with
      | none => rw [hq'] at hq; simp at hq
      | some q =>
        obtain ⟨r, hr, hrp⟩ := f2 p q hp hq'
        have hqb := bnd2 q hq'
        rw [hr]
        refine cond_i (fun _ => ?_) (fun h => by simp at h)
        refine cond_d (fun _ => fin) (fun h => absurd ?_ h)
        show r ≤ IntKind.wrap .i64 (p + q)
        rw [w64 (by omega) (by omega)]; exact hrp

theorem WitnessTrue_i {n a b c k st : Int} {l : Sl} {rows : List R3} {W : World} {Q : Bool → World → Prop} (hl : Rd W l 3 eR3 rows) (hQ : ∀ w', Keep W w' → Q true w') : F_law14_WitnessTrue n l a b c k st W Q := by
  unfold F_law14_WitnessTrue
  have hll := hl.len
  refine cond_d (fun h => awake14_i hQ) (fun h1 => ?_)
  refine cond_d (fun h => awake14_i hQ) (fun h2 => ?_)
  refine cond_d (fun h => awake14_i hQ) (fun h3 => ?_)
  refine made_i (by omega) (by omega) hl (by omega) fun w4 N g sR hN hR hap k4 fN fR => ?_
  generalize netOf n rows = L at *
  obtain ⟨m, rfl⟩ : ∃ m : Nat, n = (m : Int) := ⟨n.toNat, by omega⟩
  simp only [Int.toNat_natCast] at *
  refine cond_i (fun h => by simp at h) (fun _ => ?_)
  have rng : ∀ x : Int, 0 ≤ x % (m : Int) ∧ x % (m : Int) < (m : Int) := fun x => ⟨Int.emod_nonneg x (by omega), Int.emod_lt_of_pos x (by omega)⟩
  refine Round_i (by omega) (by omega) (Round_i (by omega) (by omega) (Round_i (by omega) (by omega) ?_))
  have hx := rng a
  have hy := rng b
  have hz := rng c
  generalize a % (m : Int) = x at *
  generalize b % (m : Int) = y at *
  generalize c % (m : Int) = z at *
  have hL := hN.ok
  have hLl := hL.len hN.sz
  refine cond_i (fun _ => awake14_i fun w' k' => hQ w' (k4.tr k')) (fun hxz => ?_)
  have hxz' : x ≠ z := by simpa using hxz
  refine cond_i (fun _ => awake14_i fun w' k' => hQ w' (k4.tr k')) (fun hyz => ?_)
  refine rCut_i hR (by omega) fun w10 s10 hR10 m10 f10 => ?_
  have hN10 := hN.mod m10 fun b hb e => hap b hb (.inl e)
  have K10 : Keep W w10 := Mod.fresh k4 m10 fun b e => fR b (.inl e)
  refine rAll_i hR10 (by have := List.length_filter_le (fun x => decide (x.f ≠ z) && decide (x.t ≠ z)) L; unfold cutL; omega) fun s1 w11 ds v11 dl hds _ k11 _ => ?_
  have hd := List.getElem?_eq_getElem (show y.toNat < ds.length by omega)
  generalize ds[y.toNat] = d at *
  have hdist := dist_cut hL hxz' (hds hx.1 hx.2 _ _ hd)
  rw [show ((y.toNat : Nat) : Int) = y by omega] at hdist
  have s1l := v11.len
  obtain ⟨p, hp, hc⟩ := rd_cell (k := .int .i64) (e := fun x => x) (v11.rd lenI) hd
  refine ⟨⟨hy.1, by omega⟩, onSome_i hp (ld1_i (k := .int .i64) d hc ?_)⟩
  refine Round_i (by omega) (by omega) ?_
  rw [w64 (n := (m : Int) + 2) (by omega) (by omega)]
  refine Round_i (by omega) (by omega) ?_
  have hk0 := Int.emod_nonneg k (b := 100) (by omega)
  have hk1 := Int.emod_lt_of_pos k (b := 100) (by omega)
  have hs0 := Int.emod_nonneg st (b := (m : Int) + 2) (by omega)
  have hs1 := Int.emod_lt_of_pos st (b := (m : Int) + 2) (by omega)
  generalize k % 100 = k at *
  generalize st % ((m : Int) + 2) = s at *
  have h11 := hN10.keep k11
  have K11 := K10.tr k11
  refine Find_i h11 (by omega) fun w14 k14 => ?_
  have h14 := h11.keep k14
  have K14 := K11.tr k14
  -- what is found is there
  have t1 : witB m L x y z k s = true → 0 ≤ d ∧ d ≤ k := fun h => by
    obtain ⟨e, he, hw, hmin⟩ := wit_walk hL hx hy h
    rcases hdist with ⟨_, h2⟩ | ⟨h1, h2, h3⟩
    · exact absurd hw (h2 e)
    · have := h3 e hw; exact ⟨h1, by omega⟩
  have t2 : witB m L x y z k m = true ↔ 0 ≤ d ∧ d ≤ k := by
    constructor
    · intro h
      obtain ⟨e, he, hw, hmin⟩ := wit_walk hL hx hy h
      rcases hdist with ⟨_, h2⟩ | ⟨h1, h2, h3⟩
      · exact absurd hw (h2 e)
      · have := h3 e hw; exact ⟨h1, by omega⟩
    · rintro ⟨h1, h2⟩
      rcases hdist with ⟨h, _⟩ | ⟨_, hw, _⟩
      · omega
      · exact wit_all hL hx hy hxz' hw h2
  intro J hJ
  have fin : ∀ w', Keep W w' → J () w' := fun w' k' => hJ () w' (awake14_i fun w'' k'' => hQ w'' (k'.tr k''))
  have go : F_witness_Find (some ⟨N.g, 0, none⟩) x y z k (m : Int) w14 fun (b8 : Bool) w17 =>
      cond (decide (d ≥ (0 : Int)))
      (cond (!(b8 == (decide (d ≤ k)))) (Q false w17)
        (cond (witB m L x y z k s) (F_witness_Find (some ⟨N.g, 0, none⟩) x y z (IntKind.wrap .i64 (k + (1 : Int))) (IntKind.wrap .i64 (s + (1 : Int))) w17 fun (b9 : Bool) w18 => cond (!b9) (Q false w18) (J (()) w18)) (J (()) w17)))
      (cond (!(b8 == false)) (Q false w17)
        (cond (witB m L x y z k s) (F_witness_Find (some ⟨N.g, 0, none⟩) x y z (IntKind.wrap .i64 (k + (1 : Int))) (IntKind.wrap .i64 (s + (1 : Int))) w17 fun (b9 : Bool) w18 => cond (!b9) (Q false w18) (J (()) w18)) (J (()) w17))) := by
    refine Find_i h14 (by omega) fun w17 k17 => ?_
    have K17 := K14.tr k17
    have last : cond (witB m L x y z k s) (F_witness_Find (some ⟨N.g, 0, none⟩) x y z (IntKind.wrap .i64 (k + (1 : Int))) (IntKind.wrap .i64 (s + (1 : Int))) w17 fun (b9 : Bool) w18 => cond (!b9) (Q false w18) (J (()) w18)) (J (()) w17) := by
      refine cond_i (fun hf => ?_) (fun _ => fin w17 K17)
      rw [w64 (n := k + 1) (by omega) (by omega), w64 (n := s + 1) (by omega) (by omega)]
      refine Find_i (h14.keep k17) (by omega) fun w18 k18 => ?_
      rw [wit_mono (k' := k + 1) (s' := s + 1) (by omega) (by omega) hf]
      exact fin w18 (K17.tr k18)
    refine cond_d (fun h0 => ?_) (fun h0 => ?_)
    · have : (witB m L x y z k m == decide (d ≤ k)) = true := by
        rw [beq_iff_eq, Bool.eq_iff_iff, t2]; simp; omega
      rw [this]; exact last
    · have : (witB m L x y z k m == false) = true := by
        cases hw : witB m L x y z k m with
        | false => rfl
        | true => exact absurd (t2.1 hw).1 (by omega)
      rw [this]; exact last
  refine cond_i (fun hf => ?_) (fun hf => go)
  have := t1 hf
  refine cond_d (fun h => by omega) (fun _ => cond_d (fun h => by omega) (fun _ => go))

theorem WitnessLess_i {n a b c k more : Int} {l : Sl} {rows : List R3} {W : World} {Q : Bool → World → Prop} (hl : Rd W l 3 eR3 rows) (hQ : ∀ w', Keep W w' → Q true w') : F_law14_WitnessLess n l a b c k more W Q := by
  unfold F_law14_WitnessLess
  have hll := hl.len
  refine cond_d (fun h => awake14_i hQ) (fun h1 => ?_)
  refine cond_d (fun h => awake14_i hQ) (fun h2 => ?_)
  refine cond_d (fun h => awake14_i hQ) (fun h3 => ?_)
  refine cond_d (fun h => awake14_i hQ) (fun h4 => ?_)
  refine cond_d (fun h => awake14_i hQ) (fun h5 => ?_)
  refine made_i (by omega) (by omega) hl (by omega) fun w4 N g sR hN hR hap k4 fN fR => ?_
  generalize netOf n rows = L at *
  obtain ⟨m, rfl⟩ : ∃ m : Nat, n = (m : Int) := ⟨n.toNat, by omega⟩
  simp only [Int.toNat_natCast] at *
  refine cond_i (fun h => by simp at h) (fun _ => ?_)
  have rng : ∀ x : Int, 0 ≤ x % (m : Int) ∧ x % (m : Int) < (m : Int) := fun x => ⟨Int.emod_nonneg x (by omega), Int.emod_lt_of_pos x (by omega)⟩
  refine Round_i (by omega) (by omega) (Round_i (by omega) (by omega) (Round_i (by omega) (by omega) (Round_i (by omega) (by omega) ?_)))
  have hx := rng a
  have hy := rng b
  have hz := rng c
  generalize a % (m : Int) = x at *
  generalize b % (m : Int) = y at *
  generalize c % (m : Int) = z at *
  have hk0 := Int.emod_nonneg k (b := 80) (by omega)
  have hk1 := Int.emod_lt_of_pos k (b := 80) (by omega)
  generalize k % 80 = k at *
  have hL := hN.ok
  have hLl := hL.len hN.sz
  have wk : IntKind.wrap .i64 (k + more) = k + more := w64 (by omega) (by omega)
  refine loop_i (fun cnt t w11 => ∃ (i : Nat) (last : Bool), i ≤ m + 2 ∧ cnt = m + 2 - i ∧ t = (last, (i : Int), ()) ∧ (last = true → ∃ s, s ≤ (i : Int) ∧ witB m L x y z k s = true) ∧ Keep w4 w11) (m + 2)
    ⟨0, false, Nat.zero_le _, rfl, rfl, fun h => (by cases h), Mod.refl _ _⟩ ?_
  rintro cnt t w11 ⟨i, last, hi, rfl, rfl, hlast, k11⟩ X hX
  dsimp only
  have h11 := hN.keep k11
  rw [w64 (n := (m : Int) + 1) (by omega) (by omega), wk]
  refine cond_d (fun hlt => ?_) (fun hge => ?_)
  · refine Find_i h11 (by omega) fun w12 k12 => ?_
    have h12 := h11.keep k12
    have next : ∀ w', Keep w12 w' → X (witB m L x y z k i, IntKind.wrap .i64 ((i : Int) + 1), ()) w' := fun w' k' => by
      rw [w64 (by omega) (by omega)]
      exact hX (m + 2 - (i + 1)) _ _ (by omega) ⟨i + 1, _, by omega, rfl, rfl, fun h => ⟨i, by omega, h⟩, (k11.tr k12).tr k'⟩
    have more' : witB m L x y z k i = true → F_witness_Find (some ⟨N.g, 0, none⟩) x y z (k + more) (i : Int) w12 fun (b7 : Bool) w13 => cond (!b7) (Q false w13) (X (witB m L x y z k i, (IntKind.wrap .i64 ((i : Int) + (1 : Int))), ()) w13) := fun hf => by
      refine Find_i h12 (by omega) fun w13 k13 => ?_
      rw [wit_mono (k' := k + more) (s' := (i : Int)) (by omega) (Int.le_refl _) hf]
      exact next w13 k13
    refine cond_i (fun hl' => ?_) (fun _ => ?_)
    · obtain ⟨s, hs, hw⟩ := hlast hl'
      have hf := wit_mono (k' := k) (s' := (i : Int)) (Int.le_refl _) hs hw
      refine cond_i (fun h => by rw [hf] at h; cases h) (fun _ => ?_)
      exact cond_i more' (fun _ => next w12 (Mod.refl _ _))
    · exact cond_i more' (fun _ => next w12 (Mod.refl _ _))
  · have hR11 := hR.keep k11
    refine rAll_i hR11 (by omega) fun s1 w15 ds v15 dl hds _ k15 _ => ?_
    have hd := List.getElem?_eq_getElem (show y.toNat < ds.length by omega)
    generalize ds[y.toNat] = d at *
    have hdist := hds hx.1 hx.2 _ _ hd
    rw [show ((y.toNat : Nat) : Int) = y by omega] at hdist
    have s1l := v15.len
    obtain ⟨p, hp, hc⟩ := rd_cell (k := .int .i64) (e := fun x => x) (v15.rd lenI) hd
    refine ⟨⟨hy.1, by omega⟩, onSome_i hp (ld1_i (k := .int .i64) d hc ?_)⟩
    have h15 := h11.keep k15
    have fin : F_witness_Find (some ⟨N.g, 0, none⟩) x y x k (m : Int) w15 fun (b9 : Bool) w16 => cond (!b9) (F_law14_awake w16 fun (b10 : Bool) w17 => Q b10 w17) (Q false w16) := by
      refine Find_i h15 (by omega) fun w16 k16 => ?_
      rw [wit_self]
      exact awake14_i fun w' k' => hQ w' ((((k4.tr k11).tr k15).tr k16).tr k')
    refine cond_i (fun _ => fin) (fun hl' => ?_)
    obtain ⟨s, hs, hw⟩ := hlast (by cases last <;> simp at hl' ⊢)
    obtain ⟨e, he, hwk, _⟩ := wit_walk hL hx hy hw
    have hwk' : Walk L (-1) x y e := hwk.mono fun e' he' _ => ⟨he', by have := (hL.may e' he').2.2.1; omega⟩
    have hd2 : 0 ≤ d ∧ d ≤ k := by
      rcases hdist with ⟨_, h2⟩ | ⟨h1, _, h3⟩
      · exact absurd hwk' (h2 e)
      · have := h3 e hwk'; exact ⟨h1, by omega⟩
    refine cond_d (fun _ => ?_) (fun h => absurd hd2.1 h)
    exact cond_d (fun _ => fin) (fun h => absurd hd2.2 h)
end Go.Proofs.Ytlflndnfgeeieaa
