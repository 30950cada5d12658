/-
  Chapter 18's laws: what 'SearchTells', 'SearchNearest' and 'SearchUps' compute is true.
-/
import Derived.Test.YtkghlmaalkmdkaaFL18
import Derived.Test.YtkghlmaalkmdkaaQ4
import Derived.Test.YtkghlmaalkmdkaaQ5
import Derived.Test.YtkghlmaalkmdkaaA4
import Derived.Test.YtkghlmaalkmdkaaQ1
import Derived.Test.YtkghlmaalkmdkaaQ3
namespace Go.Proofs.Ytkghlmaalkmdkaa
open Go Go.Den

theorem max_is (x : Int) : maxInt x (0 : Int) = max x 0 := by unfold maxInt; split <;> omega
theorem row012 {p : List Int} {d : Int} (h : Along [(⟨0, 1, 1, -1⟩ : Arc), ⟨1, 2, 5, -1⟩] p d) (h0 : p.head? = some 0) (h2 : p.getLast? = some 2) : p = [0, 1, 2] := by
  have from2 : ∀ {l : List Int} {d : Int}, Along [(⟨0, 1, 1, -1⟩ : Arc), ⟨1, 2, 5, -1⟩] (2 :: l) d → l = [] := fun {l d} h => by
    cases h with
    | one => rfl
    | cons he hf _ _ => simp at he; rcases he with rfl | rfl <;> simp at hf
  cases h with
  | one v => simp at h0 h2; omega
  | @cons e f t l d he hf ht h' =>
    have hf0 : f = 0 := by simpa using h0
    subst hf0
    simp at he
    rcases he with rfl | rfl
    · have ht1 : t = 1 := ht.symm
      subst ht1
      cases h' with
      | one => simp at h2
      | @cons e f t l d he hf ht h'' =>
        simp at he
        rcases he with rfl | rfl
        · simp at hf
        · have ht2 : t = 2 := ht.symm
          subst ht2
          rw [from2 h'']
    · simp at hf

theorem awake18_i {w : World} {Q : Bool → World → Prop} (hQ : ∀ w', Keep w w' → Q true w') : F_law18_awake w Q := by
  unfold F_law18_awake
  refine alloc_i fun w1 o1 k1 z1 => ?_
  refine built_i (by omega) (by omega) ((Vec.new lenR3 [((0 : Int), (1 : Int), (0 : Int)), ((1 : Int), (2 : Int), (4 : Int))] o1 (by simp [maxLen])).rd lenR3) (by simp) fun w2 H RH g s hH _ hR k2 _ => ?_
  have K2 := k1.tr k2
  have hw := fun e he => (netOf_w (n := 3) (rows := [((0 : Int), (1 : Int), (0 : Int)), ((1 : Int), (2 : Int), (4 : Int))]) e he).1
  have hL := hR.ok
  have U := bld_unp hL hw (fun e he => (netOf_w e he).2) (by decide)
  have hrk : ∀ x : Int, 0 ≤ x → x < ((3 : Int).toNat : Nat) → _ := fun x h0 h1 => rank_rng hL hw h0 h1
  have hnet : netOf 3 [((0 : Int), (1 : Int), (0 : Int)), ((1 : Int), (2 : Int), (4 : Int))] = [⟨0, 1, 1, -1⟩, ⟨1, 2, 5, -1⟩] := by decide +kernel
  have n30 : (3 : Int).toNat ≤ 30 := by decide
  have least := fun {a : Int} (a0 : 0 ≤ a) (a1 : a < ((3 : Int).toNat : Nat)) {ts : List Int} {x : Int} => udd_least hL hw n30 a0 a1 (ts := ts) (x := x)
  rw [hnet] at hL U hrk least hH
  have f02 : farO (3 : Int).toNat [⟨0, 1, 1, -1⟩, ⟨1, 2, 5, -1⟩] 0 2 = some 6 := by decide +kernel
  have f20 : farO (3 : Int).toNat [⟨0, 1, 1, -1⟩, ⟨1, 2, 5, -1⟩] 2 0 = none := by decide +kernel
  have s6 : ∀ ts : List Int, (∀ t, inSrc (3 : Int).toNat ts t ↔ t = 2) → LeastIs (fun d => ∃ t, inSrc (3 : Int).toNat ts t ∧ Walk [(⟨0, 1, 1, -1⟩ : Arc), ⟨1, 2, 5, -1⟩] (-1) 0 t d) 6 := fun ts hts => by
    obtain ⟨h1, h2⟩ := (far_iff hL (by decide) (by decide)).1 f02
    refine .inr ⟨by decide, ⟨2, (hts 2).2 rfl, h1⟩, fun k ⟨t, ht, hk⟩ => ?_⟩
    rw [(hts t).1 ht] at hk
    exact h2 k hk
  have s0 : LeastIs (fun d => ∃ t, inSrc (3 : Int).toNat [0] t ∧ Walk [(⟨0, 1, 1, -1⟩ : Arc), ⟨1, 2, 5, -1⟩] (-1) 2 t d) (-1) := LeastIs.no fun k ⟨t, ht, hk⟩ => by
    have : t = 0 := by simpa using ht.1
    subst this
    obtain ⟨e, _, he⟩ := far_reach hL (by decide) (by decide) hk
    rw [f20] at he; cases he
  have l6 := fun ts hts => least (a := 0) (by decide) (by decide) (s6 ts hts)
  have l0 := least (a := 2) (by decide) (by decide) s0
  generalize (bldN (3 : Int).toNat [⟨0, 1, 1, -1⟩, ⟨1, 2, 5, -1⟩] (3 : Int).toNat).all = A at *
  generalize (bldN (3 : Int).toNat [⟨0, 1, 1, -1⟩, ⟨1, 2, 5, -1⟩] (3 : Int).toNat).rank = R at *
  have in2 : ∀ t, inSrc (3 : Int).toNat [2] t ↔ t = 2 := fun t => ⟨fun h => by simpa using h.1, fun h => by subst h; exact ⟨by simp, by decide, by decide⟩⟩
  have in29 : ∀ t, inSrc (3 : Int).toNat [2, 9] t ↔ t = 2 := fun t => ⟨fun h => by
    rcases List.mem_cons.1 h.1 with h1 | h1
    · exact h1
    · have e9 : t = 9 := by simpa using h1
      have := h.2.2
      rw [e9] at this
      exact absurd this (by decide), fun h => by subst h; exact ⟨by simp, by decide, by decide⟩⟩
  refine cond_i (fun h => by simp at h) (fun _ => ?_)
  refine alloc_i fun w3 o3 k3 _ => ?_
  have h3 := hH.keep k3
  refine Dist_i h3 n30 ((Vec.new lenI [(2 : Int)] o3 (by simp [maxLen])).rd lenI) (by simp) fun d1 w4 hd1 k4 => ?_
  obtain rfl := hd1.one (l6 [2] in2)
  refine alloc_i fun w5 o5 k5 _ => ?_
  have h5 := (h3.keep k4).keep k5
  refine Path_i h5 U hrk n30 ((Vec.new lenI [(2 : Int), (9 : Int)] o5 (by simp [maxLen])).rd lenI) (by simp) (fun hn => by have := hn.one (l6 [2, 9] in29); omega) fun d2 p s1 w6 hd2 _ hp1 hp2 hp3 v6 k6 => ?_
  have hpe : p = [0, 1, 2] := by
    obtain ⟨y, hy, hl⟩ := hp3
    rw [(in29 y).1 hy] at hl
    exact row012 hp1 hp2 hl
  subst hpe
  refine alloc_i fun w7 o7 k7 _ => ?_
  have h7 := (h5.keep k6).keep k7
  refine Dist_i h7 n30 ((Vec.new lenI [(0 : Int)] o7 (by simp [maxLen])).rd lenI) (by simp) fun d3 w8 hd3 k8 => ?_
  obtain rfl := hd3.one l0
  refine alloc_i fun w9 o9 k9 _ => Dist_none fun w10 k10 => ?_
  refine alloc_i fun w11 o11 k11 _ => ?_
  have k711 := ((k8.tr k9).tr k10).tr k11
  unfold F_search_Up
  refine sup_i (h7.keep k711) n30 ((Vec.new lenI [(0 : Int)] o11 (by simp [maxLen])).rd lenI) (by simp) fun s2 t2 us bs w12 hG v12 _ k12 _ _ => ?_
  have k612 := (k7.tr k711).tr k12
  refine cond_i (fun _ => ?_) (fun h => absurd h (by decide))
  refine cond_i (fun _ => ?_) (fun h => absurd h (by decide))
  refine cond_i (fun _ => ?_) (fun h => absurd h (by decide))
  refine alloc_i fun w13 o13 k13 _ => ?_
  refine Ints_i ((v6.mod (k612.tr k13) fun _ _ => id).rd lenI) ((Vec.new lenI [(0 : Int), (1 : Int), (2 : Int)] o13 (by simp [maxLen])).rd lenI) (by simp) fun b5 w14 k14 hb => ?_
  refine cond_i (fun _ => ?_) (fun h => by rw [hb.2 rfl] at h; cases h)
  refine cond_i (fun _ => ?_) (fun h => absurd h (by decide))
  refine cond_i (fun _ => ?_) (fun h => absurd h (by decide))
  have hl := hG.far.1
  have v12l := v12.len
  refine cond_i (fun _ => ?_) (fun h => by rw [v12l, hl] at h; simp at h)
  have hu0 : us[0]? = some 0 := by
    obtain ⟨x, hx⟩ : ∃ x, us[0]? = some x := ⟨_, List.getElem?_eq_getElem (by rw [hl]; decide)⟩
    have h1 := hG.far.2 0 x hx
    have h2 : GW (inSrc (3 : Int).toNat [0]) (upL A R) (fun e => e.t) ((0 : Nat) : Int) 0 := .nil ⟨by simp, by decide, by decide⟩
    rcases h1 with ⟨_, h1⟩ | ⟨h0, _, h1⟩
    · exact absurd h2 (h1 0)
    · have := h1 0 h2
      rw [hx, show x = 0 by omega]
  obtain ⟨p0, hp0, hc0⟩ := rd_cell (k := .int .i64) (e := fun x => x) (((v12.mod k13 fun _ _ => id).mod k14 fun _ _ => id).rd lenI) hu0
  refine ⟨⟨by omega, by rw [v12l, hl]; decide⟩, onSome_i hp0 (ld1_i (k := .int .i64) (0 : Int) hc0 ?_)⟩
  refine cond_i (fun _ => ?_) (fun h => by simp at h)
  refine alloc_i fun w15 o15 k15 _ => ?_
  refine up_none fun w16 k16 => ?_
  exact hQ w16 ((((((((((K2.tr k3).tr k4).tr k5).tr k6).tr k612).tr k13).tr k14).tr k15).tr k16))

theorem SearchTells_i {n : Int} {l from_ to : Sl} {rows : List R3} {fs ts : List Int} {W : World} {Q : Bool → World → Prop} (hl : Rd W l 3 eR3 rows) (hf : Rd W from_ 1 eI fs) (ht : Rd W to 1 eI ts) (hQ : ∀ w', Keep W w' → Q true w') : F_law18_SearchTells n l from_ to W Q := by
  unfold F_law18_SearchTells
  have hll := hl.len
  have hfl := hf.len
  have htl := ht.len
  refine cond_d (fun h => awake18_i hQ) (fun h1 => ?_)
  refine cond_d (fun h => awake18_i hQ) (fun h2 => ?_)
  refine cond_d (fun h => awake18_i hQ) (fun h3 => ?_)
  refine cond_d (fun h => awake18_i hQ) (fun h4 => ?_)
  refine cond_d (fun h => awake18_i hQ) (fun h5 => ?_)
  refine built_i (by omega) (by omega) hl (by omega) fun w6 H RH g s hH hRH hR k6 _ => ?_
  generalize (bldN n.toNat (netOf n rows) n.toNat).all = A at *
  generalize (bldN n.toNat (netOf n rows) n.toNat).rank = R at *
  have n30 : n.toNat ≤ 30 := by omega
  refine cond_i (fun h => by simp at h) (fun _ => ?_)
  refine loop_i (fun c t w7 => ∃ i : Nat, i ≤ fs.length ∧ c = fs.length - i ∧ t = ((i : Int), ()) ∧ Keep w6 w7) fs.length ⟨0, Nat.zero_le _, rfl, rfl, Mod.refl _ _⟩ ?_
  rintro c t w7 ⟨i, hi, rfl, rfl, k7⟩ X hX
  dsimp only
  have K7 := k6.tr k7
  refine cond_d (fun hlt => ?_) (fun hge => ?_)
  · have hi' : i < fs.length := by omega
    have hget := List.getElem?_eq_getElem hi'
    generalize fs[i] = v at *
    have bi : 0 ≤ (i : Int) ∧ (i : Int) < (from_.l : Int) := ⟨by omega, hlt⟩
    obtain ⟨p, hp, hc⟩ := rd_cell (k := .int .i64) (e := fun x => x) (hf.mod K7 eI_ne fun _ _ => id) hget
    rw [Int.toNat_natCast]
    refine ⟨bi, onSome_i hp (ld1_i (k := .int .i64) v hc ?_)⟩
    refine Dist_i (hH.keep k7) n30 (ht.mod K7 eI_ne fun _ _ => id) (by omega) fun dd w8 hdd k8 => ?_
    have K8 := K7.tr k8
    obtain ⟨p', hp', hc'⟩ := rd_cell (k := .int .i64) (e := fun x => x) (hf.mod K8 eI_ne fun _ _ => id) hget
    refine ⟨bi, onSome_i hp' (ld1_i (k := .int .i64) v hc' ?_)⟩
    refine rDist_i (hRH.keep (k7.tr k8)) n30 (ht.mod K8 eI_ne fun _ _ => id) (by omega) fun d2 w9 hd2 k9 => ?_
    obtain rfl := hdd.one hd2
    refine cond_i (fun h => by simp at h) (fun _ => ?_)
    rw [max_is]
    refine cond_i (fun h => by simp at h) (fun _ => ?_)
    rw [wi_ i (by omega)]
    exact hX _ _ _ (by omega) ⟨i + 1, hi', rfl, rfl, (k7.tr k8).tr k9⟩
  · unfold F_search_Up F_search_Down F_ref4_Levels_UpAll F_ref4_Levels_DownAll
    refine sup_i (hH.keep k7) n30 (hf.mod K7 eI_ne fun _ _ => id) (by omega) fun s1 t1 us bs w10 hG v10 _ k10 _ _ => ?_
    have K10 := K7.tr k10
    refine climb_i (down := false) (hRH.keep (k7.tr k10)) n30 (hf.mod K10 eI_ne fun _ _ => id) (by omega) fun s2 us' w11 hU _ v11 k11 _ => ?_
    obtain rfl := hG.far.one hU
    refine Ints_i ((v10.mod k11 fun _ _ => id).rd lenI) (v11.rd lenI) (by rw [hG.far.1]; omega) fun b7 w12 k12 hb => ?_
    refine cond_i (fun _ => ?_) (fun h => by rw [hb.2 rfl] at h; cases h)
    have K12 := (K10.tr k11).tr k12
    have k712 := ((k7.tr k10).tr k11).tr k12
    refine sdown_i (hH.keep k712) n30 (ht.mod K12 eI_ne fun _ _ => id) (by omega) fun s3 t3 ds bs' w13 hG' v13 _ k13 _ _ => ?_
    have K13 := K12.tr k13
    refine climb_i (down := true) (hRH.keep (k712.tr k13)) n30 (ht.mod K13 eI_ne fun _ _ => id) (by omega) fun s4 ds' w14 hD _ v14 k14 _ => ?_
    obtain rfl := hG'.far.one hD
    refine Ints_i ((v13.mod k14 fun _ _ => id).rd lenI) (v14.rd lenI) (by rw [hG'.far.1]; omega) fun b8 w15 k15 hb => ?_
    refine cond_i (fun _ => ?_) (fun h => by rw [hb.2 rfl] at h; cases h)
    exact awake18_i fun w' k' => hQ w' (((K13.tr k14).tr k15).tr k')

theorem SearchNearest_i {n from_ : Int} {l to more : Sl} {rows : List R3} {ts ms : List Int} {W : World} {Q : Bool → World → Prop} (hl : Rd W l 3 eR3 rows) (ht : Rd W to 1 eI ts) (hm : Rd W more 1 eI ms) (hQ : ∀ w', Keep W w' → Q true w') : F_law18_SearchNearest n l from_ to more W Q := by
  unfold F_law18_SearchNearest
  have hll := hl.len
  have htl := ht.len
  have hml := hm.len
  refine cond_d (fun h => awake18_i hQ) (fun h1 => ?_)
  refine cond_d (fun h => awake18_i hQ) (fun h2 => ?_)
  refine cond_d (fun h => awake18_i hQ) (fun h3 => ?_)
  refine cond_d (fun h => awake18_i hQ) (fun h4 => ?_)
  refine cond_d (fun h => awake18_i hQ) (fun h5 => ?_)
  refine built_i (by omega) (by omega) hl (by omega) fun w6 H RH g s hH _ hR k6 _ => ?_
  generalize (bldN n.toNat (netOf n rows) n.toNat).all = A at *
  generalize (bldN n.toNat (netOf n rows) n.toNat).rank = R at *
  have n30 : n.toNat ≤ 30 := by omega
  refine cond_i (fun h => by simp at h) (fun _ => ?_)
  refine Round_i (by omega) (by omega) ?_
  have a0 : 0 ≤ from_ % n := Int.emod_nonneg _ (by omega)
  have a1 : from_ % n < n.toNat := by have := Int.emod_lt_of_pos from_ (b := n) (by omega); omega
  generalize from_ % n = a at *
  refine loop_i (fun c t w8 => ∃ (i : Nat) (best : Int), i ≤ ts.length ∧ c = ts.length - i ∧ t = (best, (i : Int), ()) ∧ LeastIs (fun d => ∃ v ∈ ts.take i, UDD n.toNat A R a [v] d) best ∧ Keep w6 w8) ts.length ⟨0, -1, Nat.zero_le _, rfl, rfl, LeastIs.no fun k ⟨v, hv, _⟩ => by simp at hv, Mod.refl _ _⟩ ?_
  rintro c t w8 ⟨i, best, hi, rfl, rfl, hbest, k8⟩ X hX
  dsimp only
  have K8 := k6.tr k8
  refine cond_d (fun hlt => ?_) (fun hge => ?_)
  · have hi' : i < ts.length := by omega
    have hget := List.getElem?_eq_getElem hi'
    have htk : ts.take (i + 1) = ts.take i ++ [ts[i]] := List.take_succ_eq_append_getElem hi'
    generalize ts[i] = v at *
    obtain ⟨p, hp, hc⟩ := rd_cell (k := .int .i64) (e := fun x => x) (ht.mod K8 eI_ne fun _ _ => id) hget
    rw [Int.toNat_natCast, wi_ i (by omega)]
    refine ⟨⟨by omega, hlt⟩, onSome_i hp (ld1_i (k := .int .i64) v hc ?_)⟩
    refine alloc_i fun w9 o9 k9 _ => ?_
    refine Dist_i (hH.keep (k8.tr k9)) n30 ((Vec.new lenI [v] o9 (by simp [maxLen])).rd lenI) (by simp) fun dd w10 hdd k10 => ?_
    have K10 := (k8.tr k9).tr k10
    have hor := (hbest.or hdd).congr (P' := fun d => ∃ v ∈ ts.take (i + 1), UDD n.toNat A R a [v] d) fun k => by
      rw [htk]
      constructor
      · rintro (⟨u, hu, h⟩ | h)
        · exact ⟨u, by simp [hu], h⟩
        · exact ⟨v, by simp, h⟩
      · rintro ⟨u, hu, h⟩
        rcases List.mem_append.1 hu with hu | hu
        · exact .inl ⟨u, hu, h⟩
        · have : u = v := by simpa using hu
          subst this; exact .inr h
    have next : ∀ x, x = (if 0 ≤ dd ∧ (best < 0 ∨ dd < best) then dd else best) → X (x, ((i + 1 : Nat) : Int), ()) w10 := fun x hx => by
      refine hX _ _ _ (by omega) ⟨i + 1, x, hi', rfl, rfl, by rw [hx]; exact hor, K10⟩
    refine cond_d (fun h0 => ?_) (fun h0 => next best (by rw [if_neg fun h => h0 h.1]))
    have hmx : max dd 0 = dd := by omega
    rw [hmx]
    refine cond_d (fun hb => next dd (by rw [if_pos ⟨h0, .inl hb⟩])) (fun hb => ?_)
    refine cond_d (fun hlt2 => next dd (by rw [if_pos ⟨h0, .inr hlt2⟩])) (fun hge2 => next best (by rw [if_neg fun h => h.2.elim hb hge2]))
  · have ei : i = ts.length := by omega
    subst ei
    rw [List.take_length] at hbest
    refine Dist_i (hH.keep k8) n30 (ht.mod K8 eI_ne fun _ _ => id) (by omega) fun dd w11 hdd k11 => ?_
    obtain rfl := hdd.one (hbest.congr fun k => dp_each.symm)
    have K11 := K8.tr k11
    refine alloc_i fun w12 o12 k12 _ => ?_
    have K12 := K11.tr k12
    have v12 : Vec w12 tInt 1 eI ⟨some ⟨w11.heap.size, 0, none⟩, 0, 0⟩ [] := Vec.new lenI [] o12 (by simp)
    refine append_i elem_sInt lenI oneI v12 (ht.mod K12 eI_ne fun _ _ => id) (by simp; omega) (by simp; omega) fun s1 w13 v13 m13 f13 _ => ?_
    have K13 : Keep W w13 := K12.fresh m13 fun k ⟨b, hb, e⟩ => by cases hb; rw [show k = w11.heap.size from e]; exact K11.size
    have k813 : Keep w6 w13 := ((k8.tr k11).tr k12).fresh m13 fun k ⟨b, hb, e⟩ => by cases hb; rw [show k = w11.heap.size from e]; exact (k8.tr k11).size
    have fr1 : ∀ b, s1.b = some b → w11.heap.size ≤ b.block := fun b hb => by
      rcases f13 with h | ⟨b', hb', hlt⟩
      · rw [hb] at h; cases h; exact Nat.le_refl _
      · rw [hb] at hb'; cases hb'; have := k12.size; omega
    refine append_i elem_sInt lenI oneI v13 (hm.mod K13 eI_ne fun _ _ => id) (by simp; omega) (by simp; omega) fun s2 w14 v14 m14 f14 _ => ?_
    have K14 : Keep W w14 := K13.fresh m14 fun k ⟨b, hb, e⟩ => by rw [e]; exact Nat.le_trans K11.size (fr1 b hb)
    have k814 : Keep w6 w14 := k813.fresh m14 fun k ⟨b, hb, e⟩ => by rw [e]; exact Nat.le_trans (k8.tr k11).size (fr1 b hb)
    refine Dist_i (hH.keep k814) n30 (v14.rd lenI) (by simp; omega) fun d2 w15 hd2 k15 => ?_
    have K15 := K14.tr k15
    have k815 := k814.tr k15
    refine alloc_i fun w16 o16 k16 _ => ?_
    have K16 := K15.tr k16
    have v16 : Vec w16 tInt 1 eI ⟨some ⟨w15.heap.size, 0, none⟩, 0, 0⟩ [] := Vec.new lenI [] o16 (by simp)
    refine append_i elem_sInt lenI oneI v16 (ht.mod K16 eI_ne fun _ _ => id) (by simp; omega) (by simp; omega) fun s3 w17 v17 m17 f17 _ => ?_
    have K17 : Keep W w17 := K16.fresh m17 fun k ⟨b, hb, e⟩ => by cases hb; rw [show k = w15.heap.size from e]; exact K15.size
    have k817 : Keep w6 w17 := (k815.tr k16).fresh m17 fun k ⟨b, hb, e⟩ => by cases hb; rw [show k = w15.heap.size from e]; exact k815.size
    have fr3 : ∀ b, s3.b = some b → w15.heap.size ≤ b.block := fun b hb => by
      rcases f17 with h | ⟨b', hb', hlt⟩
      · rw [hb] at h; cases h; exact Nat.le_refl _
      · rw [hb] at hb'; cases hb'; have := k16.size; omega
    refine alloc_i fun w18 o18 k18 _ => ?_
    refine append_i elem_sInt lenI oneI (v17.mod k18 fun _ _ => id) ((Vec.new lenI [a] o18 (by simp [maxLen])).rd lenI) (by simp; omega) (by simp; omega) fun s4 w19 v19 m19 f19 _ => ?_
    have K19 : Keep W w19 := (K17.tr k18).fresh m19 fun k ⟨b, hb, e⟩ => by rw [e]; exact Nat.le_trans K15.size (fr3 b hb)
    have k819 : Keep w6 w19 := (k817.tr k18).fresh m19 fun k ⟨b, hb, e⟩ => by rw [e]; exact Nat.le_trans k815.size (fr3 b hb)
    refine Dist_i (hH.keep k819) n30 (v19.rd lenI) (by simp; omega) fun d3 w20 hd3 k20 => ?_
    have K20 := K19.tr k20
    simp only [List.nil_append] at hd2 hd3
    have hd30 : d3 = 0 := by
      have hz : UDD n.toNat A R a (ts ++ [a]) 0 := ⟨a, 0, 0, .nil ⟨by simp, a0, a1⟩, .nil ⟨by simp, a0, a1⟩, rfl⟩
      rcases hd3 with ⟨_, h⟩ | ⟨h0, _, h⟩
      · exact absurd hz (h 0)
      · have := h 0 hz; omega
    subst hd30
    have fin : F_law18_awake w20 Q := awake18_i fun w' k' => hQ w' (K20.tr k')
    rw [max_is]
    refine cond_i (fun _ => ?_) (fun h => by simp at h)
    refine cond_i (fun _ => ?_) (fun h => by simp at h)
    refine cond_i (fun hno => ?_) (fun hyes => ?_)
    · refine cond_i (fun _ => ?_) (fun h => by simp at h)
      exact cond_i (fun _ => fin) (fun h => by simp at h)
    · have h0 : 0 ≤ dd := by simpa using hyes
      obtain ⟨g1, g2⟩ := hdd.le hd2 (fun k hk => dp_mono (fun t ht => by simp [ht]) hk) h0
      refine cond_d (fun _ => ?_) (fun h => absurd g1 h)
      refine cond_d (fun _ => ?_) (fun h => absurd (show max d2 0 ≤ max dd 0 by omega) h)
      refine cond_i (fun _ => ?_) (fun h => by simp at h)
      exact cond_i (fun _ => fin) (fun h => by simp at h)

theorem SearchUps_i {n at_ : Int} {l : Sl} {rows : List R3} {W : World} {Q : Bool → World → Prop} (hl : Rd W l 3 eR3 rows) (hQ : ∀ w', Keep W w' → Q true w') : F_law18_SearchUps n l at_ W Q := by
  unfold F_law18_SearchUps
  have hll := hl.len
  refine cond_d (fun h => awake18_i hQ) (fun h1 => ?_)
  refine cond_d (fun h => awake18_i hQ) (fun h2 => ?_)
  refine cond_d (fun h => awake18_i hQ) (fun h3 => ?_)
  refine built_i (by omega) (by omega) hl (by omega) fun w4 H RH g s hH _ hR k4 _ => ?_
  have hw := fun e he => (netOf_w (n := n) (rows := rows) e he).1
  have hL := hR.ok
  have hLl := hL.len hR.sz
  have upb := fun {a b d : Int} => up_back hL hw (a := a) (b := b) (d := d)
  have downb := fun {a b d : Int} => down_back hL hw (a := a) (b := b) (d := d)
  generalize (bldN n.toNat (netOf n rows) n.toNat).all = A at *
  generalize (bldN n.toNat (netOf n rows) n.toNat).rank = R at *
  generalize netOf n rows = L at *
  have n30 : n.toNat ≤ 30 := by omega
  refine cond_i (fun h => by simp at h) (fun _ => ?_)
  refine Round_i (by omega) (by omega) ?_
  have a0 : 0 ≤ at_ % n := Int.emod_nonneg _ (by omega)
  have a1 : at_ % n < n.toNat := by have := Int.emod_lt_of_pos at_ (b := n) (by omega); omega
  generalize at_ % n = a at *
  obtain ⟨m, rfl⟩ : ∃ m : Nat, n = (m : Int) := ⟨n.toNat, by omega⟩
  simp only [Int.toNat_natCast] at *
  obtain ⟨av, rfl⟩ : ∃ av : Nat, a = (av : Int) := ⟨a.toNat, by omega⟩
  refine alloc_i fun w6 o6 k6 _ => ?_
  unfold F_search_Up F_search_Down
  refine sup_i (hH.keep k6) n30 ((Vec.new lenI [(av : Int)] o6 (by simp [maxLen])).rd lenI) (by simp) fun s1 t1 us bs w7 hG v7 _ k7 _ _ => ?_
  refine alloc_i fun w8 o8 k8 _ => ?_
  have K8 := (k6.tr k7).tr k8
  refine sdown_i (hH.keep K8) n30 ((Vec.new lenI [(av : Int)] o8 (by simp [maxLen])).rd lenI) (by simp) fun s2 t2 ds bs' w9 hG' v9 _ k9 _ _ => ?_
  have K9 := K8.tr k9
  have v7' := (v7.mod k8 fun _ _ => id).mod k9 fun _ _ => id
  have ul := hG.far.1
  have dl := hG'.far.1
  have l1 := v7'.len
  have l2 := v9.len
  have hua : us[av]? = some 0 := by
    obtain ⟨x, hx⟩ : ∃ x, us[av]? = some x := ⟨_, List.getElem?_eq_getElem (by omega)⟩
    have h2 : GW (inSrc m [(av : Int)]) (upL A R) (fun e => e.t) (av : Int) 0 := .nil ⟨by simp, a0, a1⟩
    rcases hG.far.2 av x hx with ⟨_, h1⟩ | ⟨h0, _, h1⟩
    · exact absurd h2 (h1 0)
    · have := h1 0 h2
      rw [hx, show x = 0 by omega]
  have hda : ds[av]? = some 0 := by
    obtain ⟨x, hx⟩ : ∃ x, ds[av]? = some x := ⟨_, List.getElem?_eq_getElem (by omega)⟩
    have h2 : GW (inSrc m [(av : Int)]) (downL A R) (fun e => e.f) (av : Int) 0 := .nil ⟨by simp, a0, a1⟩
    rcases hG'.far.2 av x hx with ⟨_, h1⟩ | ⟨h0, _, h1⟩
    · exact absurd h2 (h1 0)
    · have := h1 0 h2
      rw [hx, show x = 0 by omega]
  have cu : ∀ {wx : World} {q : Nat} {x : Int}, Keep w9 wx → us[q]? = some x → ∃ p, s1.b = some p ∧ wx.cell? (p.add (q * 1)) = some (.int .i64 x) := fun kx hx => rd_cell (k := .int .i64) (e := fun x => x) ((v7'.mod kx fun _ _ => id).rd lenI) hx
  have cd : ∀ {wx : World} {q : Nat} {x : Int}, Keep w9 wx → ds[q]? = some x → ∃ p, s2.b = some p ∧ wx.cell? (p.add (q * 1)) = some (.int .i64 x) := fun kx hx => rd_cell (k := .int .i64) (e := fun x => x) ((v9.mod kx fun _ _ => id).rd lenI) hx
  refine cond_i (fun h => by rw [l1, ul] at h; simp at h) (fun _ => ?_)
  refine cond_i (fun h => by rw [l2, dl] at h; simp at h) (fun _ => ?_)
  obtain ⟨p1, hp1, hc1⟩ := cu (Mod.refl _ _) hua
  obtain ⟨p2, hp2, hc2⟩ := cd (Mod.refl _ _) hda
  dsimp only
  rw [Int.toNat_natCast]
  refine ⟨⟨by omega, by omega⟩, onSome_i hp1 (ld1_i (k := .int .i64) (0 : Int) hc1 ?_)⟩
  refine cond_i (fun h => by simp at h) (fun _ => ?_)
  refine ⟨⟨by omega, by omega⟩, onSome_i hp2 (ld1_i (k := .int .i64) (0 : Int) hc2 ?_)⟩
  refine cond_i (fun h => by simp at h) (fun _ => ?_)
  refine rAll_i (hR.keep K9) (by omega) fun s3 w10 xs v10 xl hxs _ k10 _ => ?_
  have hxs' := hxs a0 a1
  have l3 := v10.len
  have K10 := K9.tr k10
  refine loop_i (fun c t w11 => ∃ i : Nat, i ≤ m ∧ c = m - i ∧ t = ((i : Int), ()) ∧ Keep w10 w11) m ⟨0, Nat.zero_le _, rfl, rfl, Mod.refl _ _⟩ ?_
  rintro c t w11 ⟨i, hi, rfl, rfl, k11⟩ X hX
  dsimp only
  refine cond_d (fun hlt => ?_) (fun hge => awake18_i fun w' k' => hQ w' (((k4.tr K10).tr k11).tr k'))
  have hi' : i < m := by omega
  intro J hJ
  have K11 := K10.tr k11
  refine rAll_i (hR.keep K11) (by omega) fun s4 w13 ys v13 yl hys _ k13 _ => ?_
  have hys' := hys (by omega) (by omega)
  have l4 := v13.len
  have d13 : Keep w13 w13.drew := Mod.drew (Mod.refl _ w13)
  have k1013 := (k11.tr k13).tr d13
  have k913 := k10.tr k1013
  have done : ∀ wz, Keep w10 wz → J () wz := fun wz kz => by
    apply hJ
    rw [wi_ i (by omega)]
    exact hX _ _ _ (by omega) ⟨i + 1, hi', rfl, rfl, kz⟩
  obtain ⟨y, hy⟩ : ∃ y, ys[av]? = some y := ⟨_, List.getElem?_eq_getElem (by omega)⟩
  obtain ⟨u, hu⟩ : ∃ u, us[i]? = some u := ⟨_, List.getElem?_eq_getElem (by omega)⟩
  obtain ⟨d, hd⟩ : ∃ d, ds[i]? = some d := ⟨_, List.getElem?_eq_getElem (by omega)⟩
  obtain ⟨x, hx⟩ : ∃ x, xs[i]? = some x := ⟨_, List.getElem?_eq_getElem (by omega)⟩
  obtain ⟨py, hpy, hcy⟩ := rd_cell (k := .int .i64) (e := fun x => x) (v13.rd lenI) hy
  obtain ⟨pu, hpu, hcu⟩ := cu k913 hu
  obtain ⟨pd, hpd, hcd⟩ := cd k913 hd
  obtain ⟨px, hpx, hcx⟩ := rd_cell (k := .int .i64) (e := fun x => x) ((v10.mod k1013 fun _ _ => id).rd lenI) hx
  have bu : 0 ≤ (i : Int) ∧ (i : Int) < (s1.l : Int) := ⟨by omega, by omega⟩
  have bd : 0 ≤ (i : Int) ∧ (i : Int) < (s2.l : Int) := ⟨by omega, by omega⟩
  have bx : 0 ≤ (i : Int) ∧ (i : Int) < (s3.l : Int) := ⟨by omega, by omega⟩
  have hu2 : 0 ≤ u → 0 ≤ x ∧ x ≤ u ∧ ((i : Int) = av ∨ rankOf R (av : Int) < rankOf R (i : Int)) := fun h0 => by
    rcases hG.far.2 i u hu with ⟨h, _⟩ | ⟨_, h, _⟩
    · omega
    · have hup := (up_gw a0 a1).1 h
      have hwk := upb hup
      rcases hxs' i x hx with ⟨_, g⟩ | ⟨g0, _, g⟩
      · exact absurd hwk (g u)
      · exact ⟨g0, g u hwk, up_rank hup⟩
  have hd2 : 0 ≤ d → 0 ≤ y ∧ y ≤ d ∧ ((i : Int) = av ∨ rankOf R (av : Int) < rankOf R (i : Int)) := fun h0 => by
    rcases hG'.far.2 i d hd with ⟨h, _⟩ | ⟨_, h, _⟩
    · omega
    · obtain ⟨t, ht, hdn⟩ := down_gw.1 h
      have : t = (av : Int) := by simpa using ht.1
      subst this
      have hwk := downb hdn
      rcases hys' av y hy with ⟨_, g⟩ | ⟨g0, _, g⟩
      · exact absurd hwk (g d)
      · exact ⟨g0, g d hwk, down_rank hdn⟩
  rw [Int.toNat_natCast]
  have hHx : LevIs w13.drew H m A R := (hH.keep K10).keep k1013
  -- coming down
  have down : ∀ (K : Prop), K = (cond (decide (y < (0 : Int))) (Q false w13.drew)
      ((0 ≤ (i : Int) ∧ (i : Int) < ((s2.l : Nat) : Int)) ∧ onSome s2.b fun a15 => ld1 (.int .i64) w13.drew (a15.add (i * 1)) fun (x20 : Int) => cond (decide (y > x20)) (Q false w13.drew)
        (cond ((i : Int) != (av : Int)) (F_levels_Levels_Rank (some ⟨H.gl, 0, none⟩) (i : Int) w13.drew fun (x21 : Int) w20 => F_levels_Levels_Rank (some ⟨H.gl, 0, none⟩) (av : Int) w20 fun (x22 : Int) w21 => cond (decide (x21 ≤ x22)) (Q false w21) (J (()) w21)) (J (()) w13.drew)))) → 0 ≤ d → K := by
    rintro K rfl h0
    obtain ⟨q1, q2, q3⟩ := hd2 h0
    refine cond_d (fun h => by omega) (fun _ => ⟨bd, onSome_i hpd (ld1_i (k := .int .i64) d hcd ?_)⟩)
    refine cond_d (fun h => by omega) (fun _ => ?_)
    refine cond_i (fun hne => ?_) (fun _ => done _ k1013)
    have hne' : (i : Int) ≠ av := by simpa using hne
    refine Rank_i hHx (Rank_i hHx ?_)
    exact cond_d (fun h => by have := q3.resolve_left hne'; omega) (fun _ => done _ k1013)
  have tail : ((0 ≤ (i : Int) ∧ (i : Int) < ((s2.l : Nat) : Int)) ∧ onSome s2.b fun a14 => ld1 (.int .i64) w13.drew (a14.add (i * 1)) fun (x19 : Int) => cond (decide (x19 ≥ (0 : Int))) (cond (decide (y < (0 : Int))) (Q false w13.drew)
      ((0 ≤ (i : Int) ∧ (i : Int) < ((s2.l : Nat) : Int)) ∧ onSome s2.b fun a15 => ld1 (.int .i64) w13.drew (a15.add (i * 1)) fun (x20 : Int) => cond (decide (y > x20)) (Q false w13.drew)
        (cond ((i : Int) != (av : Int)) (F_levels_Levels_Rank (some ⟨H.gl, 0, none⟩) (i : Int) w13.drew fun (x21 : Int) w20 => F_levels_Levels_Rank (some ⟨H.gl, 0, none⟩) (av : Int) w20 fun (x22 : Int) w21 => cond (decide (x21 ≤ x22)) (Q false w21) (J (()) w21)) (J (()) w13.drew)))) (J (()) w13.drew)) :=
    ⟨bd, onSome_i hpd (ld1_i (k := .int .i64) d hcd (cond_d (fun h => down _ rfl h) (fun _ => done _ k1013)))⟩
  refine ⟨⟨by omega, by omega⟩, onSome_i hpy (ld1_i (k := .int .i64) y hcy ⟨bu, onSome_i hpu ?_⟩)⟩
  refine ld1_i (k := .int .i64) u hcu ?_
  refine cond_d (fun h0 => ?_) (fun _ => tail)
  obtain ⟨q1, q2, q3⟩ := hu2 h0
  refine ⟨bx, onSome_i hpx (ld1_i (k := .int .i64) x hcx ?_)⟩
  refine cond_d (fun h => by omega) (fun _ => ⟨bx, onSome_i hpx (ld1_i (k := .int .i64) x hcx ⟨bu, onSome_i hpu (ld1_i (k := .int .i64) u hcu ?_)⟩)⟩)
  refine cond_d (fun h => by omega) (fun _ => ?_)
  refine cond_i (fun hne => ?_) (fun _ => tail)
  have hne' : (i : Int) ≠ av := by simpa using hne
  refine Rank_i hHx (Rank_i hHx ?_)
  exact cond_d (fun h => by have := q3.resolve_left hne'; omega) (fun _ => tail)
end Go.Proofs.Ytkghlmaalkmdkaa

/-
  The words that each of the seat's proofs opens with.
-/
namespace Go.Proofs.Ytkghlmaalkmdkaa
open Go Go.Den Go.ChangeShapes Go.WideShapes Go.ChangeAt Go.RowKit

theorem own : ownKnob Try.prog.godebug = none := by kernel_rfl
theorem laid : laidOutB Try.prog = true := by kernel_rfl
theorem call_of {g : FuncId} {T : Tr} (hS : Sound Try.prog g T) {args : List Value} {W : World} (h : T args W fun v w' => v = .bool true ∧ Since W w') : Calls Try.prog g args.toArray W fun e w' => e = .returned (.bool true) ∧ Since W w' :=
  (hS args W _ h).mono fun e w' ⟨v, he, hv, hs⟩ => ⟨by rw [he, hv], hs⟩
def arcOf : List Int → Arc
  | [f, t, w, m] => ⟨f, t, w, m⟩
  | _ => ⟨0, 0, 0, 0⟩
theorem arcOf_enc {r : List Int} (h : r.length = 4) : eArc (arcOf r) = r.map (Value.int .i64) := by
  match r, h with
  | [f, t, w, m], _ => rfl
set_option maxRecDepth 100000 in
theorem arg_arcs {H : Type} {enc : TypeId × Value → H} {W : World} {t b : Nat} {v : Value} {d : DataW H} {ps : List MemPlace} (ht : Try.prog.underlying t = some (.slice tArc)) (hval : Value.okWide Try.prog W .any b t v) (h : DataW.Trod enc Try.prog W 0 (fun _ => true) true t v d ps) :
    ∃ (s : Sl) (xs : List Arc), v = .slice s.b s.l s.c ∧ Rd W s 4 eArc xs := by
  obtain ⟨s, rows, rfl, hr, hl⟩ := arg_rows (m := 4) ht (by kernel_rfl) (by kernel_rfl) hval h
  exact ⟨s, rows.map arcOf, rfl, hr.map arcOf fun r hr => arcOf_enc (hl r hr)⟩
end Go.Proofs.Ytkghlmaalkmdkaa

/-
  Arguments: rows of three, of five, and whole numbers.
-/
namespace Go.Proofs.Ytkghlmaalkmdkaa
open Go Go.Den Go.ChangeShapes Go.WideShapes Go.ChangeAt Go.RowKit

def r3Of : List Int → R3
  | [x, y, z] => (x, y, z)
  | _ => (0, 0, 0)
theorem r3Of_enc {r : List Int} (h : r.length = 3) : eR3 (r3Of r) = r.map (Value.int .i64) := by
  match r, h with
  | [x, y, z], _ => rfl
def i1Of : List Int → Int
  | [x] => x
  | _ => 0
theorem i1Of_enc {r : List Int} (h : r.length = 1) : eI (i1Of r) = r.map (Value.int .i64) := by
  match r, h with
  | [x], _ => rfl
set_option maxRecDepth 100000 in
theorem arg_r3 {H : Type} {enc : TypeId × Value → H} {W : World} {t b : Nat} {v : Value} {d : DataW H} {ps : List MemPlace} (ht : Try.prog.underlying t = some (.slice tArr3)) (hval : Value.okWide Try.prog W .any b t v) (h : DataW.Trod enc Try.prog W 0 (fun _ => true) true t v d ps) :
    ∃ (s : Sl) (xs : List R3), v = .slice s.b s.l s.c ∧ Rd W s 3 eR3 xs := by
  obtain ⟨s, rows, rfl, hr, hl⟩ := arg_rows (m := 3) ht (by kernel_rfl) (by kernel_rfl) hval h
  exact ⟨s, rows.map r3Of, rfl, hr.map r3Of fun r hr => r3Of_enc (hl r hr)⟩
set_option maxRecDepth 100000 in
theorem arg_is {H : Type} {enc : TypeId × Value → H} {W : World} {t b : Nat} {v : Value} {d : DataW H} {ps : List MemPlace} (ht : Try.prog.underlying t = some (.slice tInt)) (hval : Value.okWide Try.prog W .any b t v) (h : DataW.Trod enc Try.prog W 0 (fun _ => true) true t v d ps) :
    ∃ (s : Sl) (xs : List Int), v = .slice s.b s.l s.c ∧ Rd W s 1 eI xs := by
  obtain ⟨s, rows, rfl, hr, hl⟩ := arg_rows (m := 1) ht (by kernel_rfl) (by kernel_rfl) hval h
  exact ⟨s, rows.map i1Of, rfl, hr.map i1Of fun r hr => i1Of_enc (hl r hr)⟩
end Go.Proofs.Ytkghlmaalkmdkaa

/-
  Arguments: bools.
-/
namespace Go.Proofs.Ytkghlmaalkmdkaa
open Go Go.Den Go.ChangeShapes Go.WideShapes Go.ChangeAt Go.RowKit
set_option maxRecDepth 100000 in
theorem arg_bs {H : Type} {enc : TypeId × Value → H} {W : World} {t b : Nat} {v : Value} {d : DataW H} {ps : List MemPlace} (ht : Try.prog.underlying t = some (.slice tBool)) (hval : Value.okWide Try.prog W .any b t v) (h : DataW.Trod enc Try.prog W 0 (fun _ => true) true t v d ps) :
    ∃ (s : Sl) (xs : List Bool), v = .slice s.b s.l s.c ∧ Rd W s 1 eB xs := arg_bools ht (by kernel_rfl) (by kernel_rfl) hval h
end Go.Proofs.Ytkghlmaalkmdkaa
