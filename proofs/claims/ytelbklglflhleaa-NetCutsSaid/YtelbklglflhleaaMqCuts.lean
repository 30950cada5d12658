/-
  What 'NetCuts' computes is true.
-/
import Derived.Test.YtelbklglflhleaaMqMade
import Derived.Test.YtelbklglflhleaaMqCut
import Derived.Test.YtelbklglflhleaaMqNet3
import Derived.Test.YtelbklglflhleaaMqL13
namespace Go.Proofs.Ytelbklglflhleaa
open Go Go.Den

def stays (bs : List Bool) (a : Arc) : Bool := !bs.getD a.f.toNat false && !bs.getD a.t.toNat false
theorem cut_stays {m : Nat} {L : List Arc} (hL : OkL m L) {bs : List Bool} (hb : bs.length = m) {v : Int} (h0 : 0 ≤ v) (h1 : v < m) : cutL (L.filter (stays bs)) v = L.filter (stays (bs.set v.toNat true)) := by
  unfold cutL
  rw [List.filter_filter]
  refine List.filter_congr fun a ha => ?_
  obtain ⟨hf0, hf1, ht0, ht1, _⟩ := hL.may a ha
  have g : ∀ x : Int, 0 ≤ x → x < m → (bs.set v.toNat true).getD x.toNat false = (decide (x = v) || bs.getD x.toNat false) := by
    intro x hx0 hx1
    simp only [List.getD_eq_getElem?_getD, List.getElem?_set]
    by_cases hxv : x = v
    · subst hxv; have : x.toNat < bs.length := by omega
      simp [this]
    · rw [if_neg (by omega)]; simp [hxv]
  unfold stays
  rw [g a.f hf0 hf1, g a.t ht0 ht1]
  by_cases e1 : a.f = v <;> by_cases e2 : a.t = v <;> simp [e1, e2]

theorem NetCuts_i {n : Int} {l cuts : Sl} {rows : List R3} {zs : List Int} {W : World} {Q : Bool → World → Prop} (hl : Rd W l 3 eR3 rows) (hc : Rd W cuts 1 eI zs) (hQ : ∀ w', Keep W w' → Q true w') : F_law13_NetCuts n l cuts W Q := by
  unfold F_law13_NetCuts
  have hll := hl.len
  have hcl := hc.len
  refine cond_d (fun h => awake13_i hQ) (fun h1 => ?_)
  refine cond_d (fun h => awake13_i hQ) (fun h2 => ?_)
  refine cond_d (fun h => awake13_i hQ) (fun h3 => ?_)
  refine cond_d (fun h => awake13_i hQ) (fun h4 => ?_)
  refine made_i (by omega) (by omega) hl (by omega) fun w5 N g sR hN hR hap k5 fN fR => ?_
  have hsm : (netOf n rows).length < 1099511627776 := by have := hN.ok.len hN.sz; omega
  generalize hLe : netOf n rows = L at *
  obtain ⟨m, rfl⟩ : ∃ m : Nat, n = (m : Int) := ⟨n.toNat, by omega⟩
  simp only [Int.toNat_natCast] at *
  clear hR hap fR hLe
  refine cond_i (fun h => by simp at h) (fun _ => ?_)
  refine All_i hN hsm fun s1 w6 v1 k6 f1 => ?_
  have hN6 := hN.keep k6
  refine Copy_i hN6 hsm fun w7 C hC k7 fC => ?_
  refine cond_i (fun h => by simp at h) (fun _ => ?_)
  refine make_i elem_sBool (enc := eB) false rfl lenB (by omega) (Int.le_refl _) (by omega) (by omega) fun w8 v2 k8 => ?_
  simp only [Int.toNat_natCast] at v2 ⊢
  generalize hs2 : (⟨some ⟨w7.heap.size, 0, none⟩, m, m⟩ : Sl) = s2 at *
  have s2l : s2.l = m := by rw [← hs2]
  have s2b : s2.b = some ⟨w7.heap.size, 0, none⟩ := by rw [← hs2]
  have hN8 := (hN6.keep k7).keep k8
  have hC8 := hC.keep k8
  have v18 := (v1.mod k7 (fun _ _ => id)).mod k8 (fun _ _ => id)
  have K8 : Keep W w8 := ((k5.tr k6).tr k7).tr k8
  -- what stays as it is
  have fx8 : ∀ k, ((∃ a, s1.b = some a ∧ k = a.block) ∨ C.has k ∨ k = w7.heap.size) → k < w8.heap.size := by
    rintro k (⟨a, ha, rfl⟩ | h | rfl)
    · exact v18.lt ha
    · exact hC8.at_.lt h
    · exact v2.lt s2b
  have fxN : ∀ k, N.has k → ¬ ((∃ a, s1.b = some a ∧ k = a.block) ∨ C.has k ∨ k = w7.heap.size) := by
    rintro k hk (⟨a, ha, rfl⟩ | h | rfl)
    · have := f1 a ha; have := hN.at_.lt hk; omega
    · have := fC k h; have := hN6.at_.lt hk; omega
    · have := (hN6.keep k7).at_.lt hk; omega
  have fxW : W.heap.size ≤ w7.heap.size := ((k5.tr k6).tr k7).size
  have fxCb : ¬ C.has w7.heap.size := fun h => by have := hC.at_.lt h; omega
  have fx1b : ∀ a, s1.b = some a → ¬ a.block = w7.heap.size := fun a ha e => by have := (v1.mod k7 (fun _ _ => id)).lt ha; omega
  generalize hgb : w7.heap.size = gb at *
  refine loop_i (fun c t w9 => ∃ (i : Nat) (N2 : NetS) (bs : List Bool), i ≤ zs.length ∧ c = zs.length - i ∧ t = ((i : Int), ()) ∧ NetIs w9 N2 m (L.filter (stays bs)) ∧ N2.g = N.g ∧ NetIs w9 C m L ∧ Vec w9 tArc 4 eArc s1 L ∧
      Vec w9 tBool 1 eB s2 bs ∧ bs.length = m ∧ Keep W w9 ∧ (∀ k, N2.has k → W.heap.size ≤ k) ∧ (∀ k, N2.has k → ¬ ((∃ a, s1.b = some a ∧ k = a.block) ∨ C.has k ∨ k = gb)) ∧ w8.heap.size ≤ w9.heap.size) zs.length
    ⟨0, N, List.replicate m false, Nat.zero_le _, rfl, rfl, ?_, rfl, hC8, v18, v2, by simp, K8, fN, fxN, Nat.le_refl _⟩ ?_
  · have : L.filter (stays (List.replicate m false)) = L := by
      refine List.filter_eq_self.2 fun a _ => ?_
      have hr : ∀ j, (List.replicate m false).getD j false = false := by
        intro j; rw [List.getD_eq_getElem?_getD, List.getElem?_replicate]; split <;> rfl
      unfold stays; rw [hr, hr]; rfl
    rw [this]; exact hN8
  rintro c t w9 ⟨i, N2, bs, hi, rfl, rfl, hN9, hg9, hC9, v19, v29, hbl, K9, fW9, fx9, z9⟩ X hX
  dsimp only
  rw [← hg9]
  refine cond_d (fun hlt => ?_) (fun hge => ?_)
  · have hi' : i < zs.length := by omega
    refine ⟨⟨by omega, by omega⟩, ?_⟩
    obtain ⟨p, hp, hh⟩ := rd_cell (k := .int .i64) (e := fun x => x) (hc.mod K9 eI_ne (fun _ _ => id)) (List.getElem?_eq_getElem hi')
    generalize zs[i] = x at hh
    refine onSome_i hp (ld1_i (k := .int .i64) x hh ?_)
    refine Round_i (by omega) (by omega) ?_
    have hv0 := Int.emod_nonneg x (b := (m : Int)) (by omega)
    have hv1 := Int.emod_lt_of_pos x (b := (m : Int)) (by omega)
    generalize x % (m : Int) = v at *
    refine Cut_i hN9 fun w11 N3 hN11 hg11 m11 f11 => ?_
    rw [cut_stays hC9.ok hbl hv0 hv1] at hN11
    have hC11 := hC9.mod m11 fun k hk hk' => fx9 k hk' (.inr (.inl hk))
    have v111 := v19.mod m11 fun a ha hk' => fx9 a.block hk' (.inl ⟨a, ha, rfl⟩)
    have v211 := v29.mod m11 fun a ha hk' => fx9 a.block hk' (.inr (.inr (by rw [s2b] at ha; cases ha; rfl)))
    have K11 : Keep W w11 := Mod.fresh K9 m11 fW9
    have fW11 : ∀ k, N3.has k → W.heap.size ≤ k := fun k hk => (f11 k hk).elim (fW9 k) fun h => Nat.le_trans K9.size h
    have fx11 : ∀ k, N3.has k → ¬ ((∃ a, s1.b = some a ∧ k = a.block) ∨ C.has k ∨ k = gb) := fun k hk => (f11 k hk).elim (fx9 k) fun h h' => by have := fx8 k h'; omega
    have z11 : w8.heap.size ≤ w11.heap.size := Nat.le_trans z9 m11.size
    refine ⟨⟨hv0, hv1⟩, onSome_i rfl ?_⟩
    refine v211.store lenB s2b (i := v.toNat) (by omega) true rfl (by kernel_rfl) (oneB true) fun w12 v12 m12 z12 => ?_
    have hN12 := hN11.mod m12 fun k hk e => fx11 k hk (.inr (.inr e))
    have hC12 := hC11.mod m12 fun k hk e => fxCb (by rw [show k = gb from e] at hk; exact hk)
    have v112 := v111.mod m12 fun a ha e => fx1b a ha e
    have K12 : Keep W w12 := Mod.fresh K11 m12 fun k e => by rw [show k = gb from e]; exact fxW
    rw [← hg11]
    have nil1 : inL (L.filter (stays (bs.set v.toNat true))) v = [] := by
      rw [← cut_stays hC9.ok hbl hv0 hv1]
      exact List.filter_eq_nil_iff.2 fun a ha => by have := (mem_cutL.1 ha).2.2; simpa using this
    have nil2 : outL (L.filter (stays (bs.set v.toNat true))) v = [] := by
      rw [← cut_stays hC9.ok hbl hv0 hv1]
      exact List.filter_eq_nil_iff.2 fun a ha => by have := (mem_cutL.1 ha).2.1; simpa using this
    refine In_i hN12 fun s3 w13 v3 k13 _ => ?_
    refine Out_i (hN12.keep k13) fun s4 w14 v4 k14 _ => ?_
    rw [nil1] at v3
    rw [nil2] at v4
    have l3 : s3.l = 0 := v3.len
    have l4 : s4.l = 0 := v4.len
    have k1214 : Keep w12 w14 := k13.tr k14
    rw [l3, l4]
    refine cond_i (fun h => absurd h (by decide)) (fun _ => ?_)
    rw [w64 (by omega) (by omega)]
    exact hX (zs.length - (i + 1)) _ _ (by omega) ⟨i + 1, N3, bs.set v.toNat true, hi', rfl, rfl, hN12.keep k1214, by rw [hg11, hg9], hC12.keep k1214, v112.mod k1214 (fun _ _ => id), v12.mod k1214 (fun _ _ => id), by simp [hbl], K12.tr k1214, fW11, fx11, by have := k1214.size; omega⟩
  · -- what must be left
    have sl1 := v19.len
    have sl2 := v29.len
    refine loop_i (fun c t w15 => ∃ (i : Nat) (s : Sl), i ≤ L.length ∧ c = L.length - i ∧ t = (s, (i : Int), ()) ∧ Vec w15 tArc 4 eArc s ((L.take i).filter (stays bs)) ∧ Keep w9 w15 ∧ (∀ b, s.b = some b → w9.heap.size ≤ b.block)) L.length
      ⟨0, _, Nat.zero_le _, rfl, rfl, by simpa using Vec.nil _ _ _ _, Mod.refl _ _, fun b hb => by cases hb⟩ ?_
    rintro c t w15 ⟨i, s, hi, rfl, rfl, hv, k15, fs⟩ Y hY
    dsimp only
    have v115 := v19.mod k15 (fun _ _ => id)
    have v215 := v29.mod k15 (fun _ _ => id)
    refine cond_d (fun hlt => ?_) (fun hge => ?_)
    · have hi' : i < L.length := by omega
      obtain ⟨p, hp, hh⟩ := rd_tup (v115.rd lenA) (List.getElem?_eq_getElem hi')
      obtain ⟨hf0, hf1, ht0, ht1, _⟩ := hC9.ok.may _ (List.getElem_mem hi')
      have tk : (L.take (i + 1)).filter (stays bs) = (L.take i).filter (stays bs) ++ (if stays bs L[i] then [L[i]] else []) := by
        rw [List.take_succ_eq_append_getElem hi', List.filter_append]; congr 1; simp only [List.filter_cons, List.filter_nil]
      generalize ha : L[i] = a at *
      have c0 : w15.cell? ((p.add (i * 4)).add 0) = some (.int .i64 a.f) := hh.1
      have c1 : w15.cell? ((p.add (i * 4)).add 1) = some (.int .i64 a.t) := hh.2.1
      have bnd : 0 ≤ (i : Int) ∧ (i : Int) < (s1.l : Int) := ⟨by omega, by omega⟩
      simp only [Int.toNat_natCast]
      refine ⟨bnd, onSome_i hp (ld1_i (k := .int .i64) a.f c0 ?_)⟩
      refine cond_d (fun h => by omega) (fun _ => ?_)
      refine ⟨bnd, onSome_i hp (ld1_i (k := .int .i64) a.f c0 ?_)⟩
      refine cond_d (fun h => by omega) (fun _ => ?_)
      refine ⟨bnd, onSome_i hp (ld1_i (k := .int .i64) a.t c1 ?_)⟩
      refine cond_d (fun h => by omega) (fun _ => ?_)
      refine ⟨bnd, onSome_i hp (ld1_i (k := .int .i64) a.t c1 ?_)⟩
      refine cond_d (fun h => by omega) (fun _ => ?_)
      refine ⟨bnd, onSome_i hp (ld1_i (k := .int .i64) a.f c0 ?_)⟩
      have gb1 : ∀ x : Int, 0 ≤ x → x < m → bs[x.toNat]? = some (bs.getD x.toNat false) := fun x h0 h1 => by
        rw [List.getD_eq_getElem?_getD, List.getElem?_eq_getElem (show x.toNat < bs.length by omega)]; rfl
      obtain ⟨q, hq, hf⟩ := rd_cell (k := .bool) (e := fun x => x) (v215.rd lenB) (gb1 a.f hf0 hf1)
      obtain ⟨q', hq', ht⟩ := rd_cell (k := .bool) (e := fun x => x) (v215.rd lenB) (gb1 a.t ht0 ht1)
      obtain rfl : (⟨gb, 0, none⟩ : Addr) = q := by rw [s2b] at hq; exact Option.some.inj hq
      obtain rfl : (⟨gb, 0, none⟩ : Addr) = q' := by rw [s2b] at hq'; exact Option.some.inj hq'
      have skip : stays bs a = false → Y (s, IntKind.wrap .i64 ((i : Int) + 1), ()) w15 := fun hst => by
        rw [w64 (by omega) (by omega)]
        refine hY (L.length - (i + 1)) _ _ (by omega) ⟨i + 1, s, hi', rfl, rfl, ?_, k15, fs⟩
        rw [tk, hst]; simpa using hv
      refine ⟨⟨hf0, hf1⟩, onSome_i rfl (ld1_i (k := .bool) _ hf ?_)⟩
      refine cond_i (fun hb1 => ?_) (fun hb1 => skip (by unfold stays; rw [hb1]; rfl))
      refine ⟨bnd, onSome_i hp (ld1_i (k := .int .i64) a.t c1 ?_)⟩
      refine ⟨⟨ht0, ht1⟩, onSome_i rfl (ld1_i (k := .bool) _ ht ?_)⟩
      refine cond_i (fun hb2 => ?_) (fun hb2 => skip (by unfold stays; rw [hb2, Bool.and_false]))
      refine ⟨bnd, onSome_i hp (ldN_i (tupA a) hh ?_)⟩
      simp only [allocD]
      have hst : stays bs a = true := by unfold stays; rw [hb1, hb2]; rfl
      have hlit := Vec.lit w15 tArc eArc lenA [a] #[Value.int .i64 a.f, Value.int .i64 a.t, Value.int .i64 a.w, Value.int .i64 a.m] rfl (by simp [maxLen])
      have k16 := Keep.alloc w15 (.cells #[Value.int .i64 a.f, Value.int .i64 a.t, Value.int .i64 a.w, Value.int .i64 a.m] tArc)
      have hfl : ((L.take i).filter (stays bs)).length ≤ L.length := Nat.le_trans (List.length_filter_le _ _) (by simp; omega)
      refine append_i elem_sArc lenA oneA (hv.mod k16 (fun _ _ => id)) (hlit.rd lenA) (by simp only [List.length_singleton]; omega) (by simp only [List.length_singleton]; omega) fun r w17 hv17 m17 f17 _ => ?_
      rw [w64 (by omega) (by omega)]
      refine hY (L.length - (i + 1)) _ _ (by omega) ⟨i + 1, r, hi', rfl, rfl, by rw [tk, hst]; exact hv17, Mod.fresh (k15.tr k16) m17 fun k ⟨b, hb, e⟩ => by subst e; exact fs b hb, fun b hb => ?_⟩
      rcases f17 with e | ⟨a', e, hle⟩
      · exact fs b (e ▸ hb)
      · rw [e] at hb; cases hb
        exact Nat.le_trans (k15.tr k16).size hle
    · have e : i = L.length := by omega
      subst e
      rw [List.take_length] at hv
      have hN15 := hN9.keep k15
      have hC15 := hC9.keep k15
      have hfl : (L.filter (stays bs)).length < 1099511627776 := Nat.lt_of_le_of_lt (List.length_filter_le _ _) hsm
      refine All_i hN15 hfl fun s6 w18 v6 k18 _ => ?_
      refine ArcsSame_i (v6.rd lenA) ((hv.mod k18 (fun _ _ => id)).rd lenA) hfl fun r w19 k19 hr => ?_
      refine cond_i (fun _ => ?_) (fun hb => by rw [hr.2 rfl] at hb; cases hb)
      refine All_i ((hC15.keep k18).keep k19) hsm fun s7 w20 v7 k20 _ => ?_
      have k1520 : Keep w15 w20 := (k18.tr k19).tr k20
      refine ArcsSame_i (v7.rd lenA) ((v115.mod k1520 (fun _ _ => id)).rd lenA) hsm fun r w21 k21 hr => ?_
      refine cond_i (fun _ => ?_) (fun hb => by rw [hr.2 rfl] at hb; cases hb)
      refine Len_i ((hN15.keep k1520).keep k21) ?_
      refine cond_i (fun _ => ?_) (fun h => by simp at h)
      exact awake13_i fun w' k => hQ w' ((((K9.tr k15).tr k1520).tr k21).tr k)
end Go.Proofs.Ytelbklglflhleaa
