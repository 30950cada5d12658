/-
  Chapter 15's laws: what their functions compute is true.
-/
import Derived.Test.YtadacfoiphklgaaFL15
import Derived.Test.YtadacfoiphklgaaMqRank
import Derived.Test.YtadacfoiphklgaaMqAll
import Derived.Test.YtadacfoiphklgaaMqRCopy
import Derived.Test.YtadacfoiphklgaaMqCut
namespace Go.Proofs.Ytadacfoiphklgaa
open Go Go.Den

theorem lenR3 : ∀ r : R3, (eR3 r).length = 3 := fun _ => rfl
theorem rd_r3 {w : World} {rows : List R3} {cs : Array Value} (hc : cs.toList = rows.flatMap eR3) (n : Nat) (hn : n = rows.length) (hm : n ≤ 100) : Rd (w.alloc (.cells cs tArr3)) ⟨some ⟨w.heap.size, 0, none⟩, n, n⟩ 3 eR3 rows := by
  subst hn
  exact (Vec.lit w tArr3 eR3 lenR3 rows cs hc (by simp [maxLen]; omega)).rd lenR3

theorem awake15_i {w : World} {Q : Bool → World → Prop} (hQ : ∀ w', Keep w w' → Q true w') : F_law15_awake w Q := by
  unfold F_law15_awake
  simp only [allocD]
  have k1 := Keep.alloc w (.cells #[Value.int .i64 (0 : Int), Value.int .i64 (1 : Int), Value.int .i64 (0 : Int), Value.int .i64 (1 : Int), Value.int .i64 (2 : Int), Value.int .i64 (0 : Int)] 47)
  refine made_i (by omega) (by omega) (rd_r3 (rows := [(0, 1, 0), (1, 2, 0)]) rfl 2 rfl (by omega)) (by simp) fun w2 N g s hN _ _ k2 _ _ => ?_
  have K2 := k1.tr k2
  have e1 : shortL (3 : Int).toNat (netOf 3 [(0, 1, 0), (1, 2, 0)]) 1 = [⟨0, 2, 2, 1⟩] := by decide +kernel
  have e2 : worthL (3 : Int).toNat (netOf 3 [(0, 1, 0), (1, 2, 0)]) 1 = -1 := by decide +kernel
  have e3 : worthL (3 : Int).toNat (netOf 3 [(0, 1, 0), (1, 2, 0)]) 0 = -1 := by decide +kernel
  have e4 : firstL (3 : Int).toNat (netOf 3 [(0, 1, 0), (1, 2, 0)]) [] = 0 := by decide +kernel
  have e5 : firstL (3 : Int).toNat (netOf 3 [(0, 1, 0), (1, 2, 0)]) [true, true, true] = -1 := by decide +kernel
  generalize netOf 3 [(0, 1, 0), (1, 2, 0)] = L at *
  refine cond_i (fun h => by simp at h) (fun _ => ?_)
  refine Shortcuts_i hN fun s1 w3 v3 k3 f3 => ?_
  rw [e1] at v3
  have l3 := v3.len
  refine cond_i (fun _ => ?_) (fun h => by rw [l3] at h; simp at h)
  obtain ⟨p, hp, hh⟩ := rd_tup (v3.rd lenA) (i := 0) rfl
  refine ⟨⟨by omega, by rw [l3]; decide⟩, onSome_i hp (ldN_i (tupA ⟨0, 2, 2, 1⟩) hh ?_)⟩
  refine cond_i (fun _ => ?_) (fun h => by simp at h)
  have h3 := hN.keep k3
  refine Worth_i h3 fun w4 k4 => ?_
  rw [e2]
  refine cond_i (fun _ => ?_) (fun h => by simp at h)
  refine Worth_i (h3.keep k4) fun w5 k5 => ?_
  rw [e3]
  refine cond_i (fun _ => ?_) (fun h => by simp at h)
  have h5 := (h3.keep k4).keep k5
  refine First_i (gs := []) h5 (Rd.nil _ _ _) (by simp) fun w6 k6 => ?_
  rw [e4]
  refine cond_i (fun _ => ?_) (fun h => by simp at h)
  have k7 := Keep.alloc w6 (.cells #[Value.bool true, Value.bool true, Value.bool true] 4)
  refine First_i (gs := [true, true, true]) ((h5.keep k6).keep k7) ((Vec.lit w6 tBool eB lenB [true, true, true] #[Value.bool true, Value.bool true, Value.bool true] rfl (by simp [maxLen])).rd lenB) (by simp) fun w8 k8 => ?_
  rw [e5]
  refine cond_i (fun _ => ?_) (fun h => by simp at h)
  refine First_none ?_
  refine cond_i (fun _ => ?_) (fun h => by simp at h)
  exact hQ w8 (((((((K2.tr k3).tr k4).tr k5).tr k6).tr k7)).tr k8)

theorem arcsOf_w {n : Int} {rows : List R3} : ∀ e ∈ netOf n rows, e.w ≤ 20 := by
  intro e he
  rcases putAll_sub _ he with h | h
  · cases h
  · unfold arcsOf at h
    split at h
    · cases h
    · obtain ⟨r, _, hr⟩ := List.mem_flatMap.1 h
      unfold arcOf3 at hr
      split at hr
      · cases hr
      · simp at hr
        subst hr
        have := Int.emod_lt_of_pos r.2.2 (b := 20) (by omega)
        show 1 + r.2.2 % 20 ≤ 20; omega

theorem RankLone_i {n a : Int} {l : Sl} {rows : List R3} {W : World} {Q : Bool → World → Prop} (hl : Rd W l 3 eR3 rows) (hQ : ∀ w', Keep W w' → Q true w') : F_law15_RankLone n l a W Q := by
  unfold F_law15_RankLone
  have hll := hl.len
  refine cond_d (fun h => awake15_i hQ) (fun h1 => ?_)
  refine cond_d (fun h => awake15_i hQ) (fun h2 => ?_)
  refine cond_d (fun h => awake15_i hQ) (fun h3 => ?_)
  refine made_i (by omega) (by omega) hl (by omega) fun w4 N g sR hN _ _ k4 fN _ => ?_
  generalize netOf n rows = L at *
  obtain ⟨m, rfl⟩ : ∃ m : Nat, n = (m : Int) := ⟨n.toNat, by omega⟩
  simp only [Int.toNat_natCast] at *
  refine cond_i (fun h => by simp at h) (fun _ => ?_)
  refine Round_i (by omega) (by omega) ?_
  generalize a % (m : Int) = v at *
  have hL := hN.ok
  have il := hL.in_len v
  have ol := hL.out_len v
  refine In_i hN fun s1 w6 v6 k6 _ => ?_
  refine Out_i (hN.keep k6) fun s2 w7 v7 k7 _ => ?_
  have h7 := (hN.keep k6).keep k7
  refine Shortcuts_i h7 fun s3 w8 v8 k8 _ => ?_
  have h8 := h7.keep k8
  have K8 : Keep W w8 := ((k4.tr k6).tr k7).tr k8
  have l1 := v6.len
  have l2 := v7.len
  have l3 := v8.len
  have hsl : (shortL m L v).length ≤ (inL L v).length * (outL L v).length := short_len m L v (inL L v)
  have hmul : (inL L v).length * (outL L v).length ≤ 40 * 40 := Nat.mul_le_mul (by omega) (by omega)
  have hcast : ((inL L v).length : Int) * ((outL L v).length : Int) = (((inL L v).length * (outL L v).length : Nat) : Int) := by rw [Int.natCast_mul]
  rw [l1, l2, l3, hcast, w64 (n := (((inL L v).length * (outL L v).length : Nat) : Int)) (by omega) (by omega)]
  refine cond_d (fun h => by omega) (fun _ => ?_)
  have lone : (shortL m L v).length = 0 → F_rank_Worth (some ⟨N.g, 0, none⟩) v w8 fun (x2 : Int) w9 =>
      cond (x2 == (IntKind.wrap .i64 ((IntKind.wrap .i64 (0 - ((inL L v).length : Int))) - ((outL L v).length : Int)))) (F_law15_awake w9 fun (b4 : Bool) w10 => Q b4 w10) (Q false w9) := fun h0 => by
    refine Worth_i h8 fun w9 k9 => ?_
    have : (worthL m L v == (IntKind.wrap .i64 ((IntKind.wrap .i64 (0 - ((inL L v).length : Int))) - ((outL L v).length : Int)))) = true := by
      rw [w64 (n := 0 - ((inL L v).length : Int)) (by omega) (by omega), w64 (by omega) (by omega), beq_iff_eq]
      unfold worthL; rw [h0]; omega
    rw [this]
    exact awake15_i fun w' k' => hQ w' ((K8.tr k9).tr k')
  refine cond_i (fun hi => ?_) (fun hi => ?_)
  · have h0 : (shortL m L v).length = 0 := by
      have : (inL L v).length = 0 := by simpa using hi
      rw [this, Nat.zero_mul] at hsl; omega
    refine cond_i (fun _ => lone h0) (fun h => by rw [h0] at h; simp at h)
  · refine cond_i (fun ho => ?_) (fun ho => ?_)
    · have h0 : (shortL m L v).length = 0 := by
        have : (outL L v).length = 0 := by simpa using ho
        rw [this, Nat.mul_zero] at hsl; omega
      refine cond_i (fun _ => lone h0) (fun h => by rw [h0] at h; simp at h)
    · refine Cut_i h8 fun w13 N3 h13 g13 m13 f13 => ?_
      have K13 : Keep W w13 := Mod.fresh K8 m13 fN
      rw [← g13]
      have i0 : inL (cutL L v) v = [] := List.filter_eq_nil_iff.2 fun a ha => by have := (mem_cutL.1 ha).2.2; simpa using this
      have o0 : outL (cutL L v) v = [] := List.filter_eq_nil_iff.2 fun a ha => by have := (mem_cutL.1 ha).2.1; simpa using this
      have s0 : shortL m (cutL L v) v = [] := by unfold shortL; rw [i0]; rfl
      have w0 : worthL m (cutL L v) v = 0 := by unfold worthL; rw [s0, i0, o0]; rfl
      refine Shortcuts_i h13 fun s4 w14 v14 k14 _ => ?_
      rw [s0] at v14
      have l4 := v14.len
      refine cond_i (fun _ => ?_) (fun h => by rw [l4] at h; simp at h)
      refine Worth_i (h13.keep k14) fun w15 k15 => ?_
      rw [w0]
      exact awake15_i fun w' k' => hQ w' (((K13.tr k14).tr k15).tr k')

theorem RankFirst_i {n : Int} {l gone : Sl} {rows : List R3} {gs : List Bool} {W : World} {Q : Bool → World → Prop} (hl : Rd W l 3 eR3 rows) (hg : Rd W gone 1 eB gs) (hQ : ∀ w', Keep W w' → Q true w') : F_law15_RankFirst n l gone W Q := by
  unfold F_law15_RankFirst
  have hll := hl.len
  have hgl := hg.len
  refine cond_d (fun h => awake15_i hQ) (fun h1 => ?_)
  refine cond_d (fun h => awake15_i hQ) (fun h2 => ?_)
  refine cond_d (fun h => awake15_i hQ) (fun h3 => ?_)
  refine cond_d (fun h => awake15_i hQ) (fun h4 => ?_)
  refine made_i (by omega) (by omega) hl (by omega) fun w5 N g sR hN _ _ k5 fN _ => ?_
  generalize netOf n rows = L at *
  obtain ⟨m, rfl⟩ : ∃ m : Nat, n = (m : Int) := ⟨n.toNat, by omega⟩
  simp only [Int.toNat_natCast] at *
  refine cond_i (fun h => by simp at h) (fun _ => ?_)
  refine First_i hN (hg.mod k5 (by simp) fun _ _ => id) (by omega) fun w6 k6 => ?_
  have h6 := hN.keep k6
  have K6 := k5.tr k6
  have hf := first_ok m L gs m
  have hfz : firstL m L gs = (firstUpto m L gs m).1 := rfl
  generalize firstUpto m L gs m = z at *
  rw [hfz]
  refine loop_i (fun c t w7 => ∃ (i : Nat) (left : Nat), i ≤ m ∧ left ≤ i ∧ c = m - i ∧ t = ((left : Int), (i : Int), ()) ∧ Keep w6 w7 ∧ ((0 < left → 0 ≤ z.1) ∧ (left = 0 → ∀ v, v < i → isGone gs v = true))) m
    ⟨0, 0, Nat.zero_le _, Nat.le_refl _, rfl, rfl, Mod.refl _ _, fun h => absurd h (by omega), fun _ v hv => by omega⟩ ?_
  rintro c t w7 ⟨i, left, hi, hli, rfl, rfl, k7, hleft⟩ X hX
  dsimp only
  have h7 := h6.keep k7
  refine cond_d (fun hlt => ?_) (fun hge => ?_)
  · have hi' : i < m := by omega
    intro J hJ
    have notgone : isGone gs i = false → J () w7 := fun hng => by
      apply hJ
      have hz0 : 0 ≤ z.1 := by
        rcases Int.lt_or_le z.1 0 with h | h
        · have := (hf.none h).2 i hi'; rw [hng] at this; cases this
        · exact h
      obtain ⟨s1, s2, s3, s4⟩ := hf.some hz0
      have s5 := s4 i hi' hng
      have bw := worth_bnd h7.ok h7.sz i
      have nx : ∀ w', Keep w7 w' → X (IntKind.wrap .i64 ((left : Int) + 1), IntKind.wrap .i64 ((i : Int) + 1), ()) w' := fun w' k' => by
        rw [wi_ left (by omega), wi_ i (by omega)]
        exact hX _ _ _ (by omega) ⟨i + 1, left + 1, hi', by omega, rfl, rfl, k7.tr k', fun _ => hz0, fun h => absurd h (by omega)⟩
      refine cond_d (fun h => absurd h (by omega)) (fun _ => ?_)
      refine cond_d (fun h => absurd h (by omega)) (fun _ => ?_)
      refine Worth_i h7 fun w9 k9 => ?_
      refine Worth_i (h7.keep k9) fun w10 k10 => ?_
      rw [← s3]
      refine cond_d (fun h => absurd s5.1 (by omega)) (fun _ => ?_)
      refine cond_i (fun he => ?_) (fun _ => nx w10 (k9.tr k10))
      have he' : worthL m L (i : Int) = z.2 := by simpa using he
      have := s5.2 he'
      exact cond_d (fun h => absurd this (by omega)) (fun _ => nx w10 (k9.tr k10))
    refine cond_d (fun hlg => ?_) (fun hlg => ?_)
    · have hkl : i < gs.length := by omega
      have hget : gs[i]? = some gs[i] := List.getElem?_eq_getElem hkl
      obtain ⟨p, hp, hc⟩ := rd_cell (k := .bool) (e := fun x => x) (hg.mod (K6.tr k7) (by simp) (fun _ _ => id)) hget
      have hgk : isGone gs i = gs[i] := by unfold isGone; rw [List.getD_eq_getElem?_getD, hget]; rfl
      rw [Int.toNat_natCast]
      refine ⟨⟨by omega, hlg⟩, onSome_i hp (ld1_i (k := .bool) _ hc ?_)⟩
      refine cond_i (fun hb => ?_) (fun hb => notgone (hgk.trans hb))
      refine cond_i (fun he => ?_) (fun _ => ?_)
      · have he' : z.1 = (i : Int) := by simpa using he
        have := (hf.some (by omega)).2.1
        rw [he', Int.toNat_natCast, hgk, hb] at this; cases this
      · rw [wi_ i (by omega)]
        refine hX _ _ _ (by omega) ⟨i + 1, left, hi', by omega, rfl, rfl, k7, hleft.1, fun h0 v hv => ?_⟩
        rcases Nat.lt_or_ge v i with h | h
        · exact hleft.2 h0 v h
        · have : v = i := by omega
          rw [this]; exact hgk.trans hb
    · refine notgone ?_
      unfold isGone
      rw [List.getD_eq_getElem?_getD, List.getElem?_eq_none (by omega)]; rfl
  · have e : i = m := by omega
    subst e
    have fin : F_law15_awake w7 fun b w' => Q b w' := awake15_i fun w' k' => hQ w' ((K6.tr k7).tr k')
    refine cond_d (fun _ => fin) (fun h0 => ?_)
    have hl0 : left = 0 := by omega
    have : z.1 = -1 := by
      rcases Int.lt_or_le z.1 0 with h | h
      · exact (hf.none h).1
      · obtain ⟨s1, s2, _⟩ := hf.some h
        have := hleft.2 hl0 z.1.toNat (by omega)
        rw [s2] at this; cases this
    rw [this]
    exact cond_i (fun _ => fin) (fun h => by simp at h)
end Go.Proofs.Ytadacfoiphklgaa
