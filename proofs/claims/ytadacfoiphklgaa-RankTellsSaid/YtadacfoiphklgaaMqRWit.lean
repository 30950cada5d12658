/-
  The document's Witness.
-/
import Derived.Test.YtadacfoiphklgaaFWit
import Derived.Test.YtadacfoiphklgaaMqRHeap
import Derived.Test.YtadacfoiphklgaaMqSeek
import Derived.Test.YtadacfoiphklgaaMqMade
import Derived.Test.YtadacfoiphklgaaMpWit
namespace Go.Proofs.Ytadacfoiphklgaa
open Go Go.Den

theorem fnd_none {s : List It} {to most settle : Int} (h : ∀ (j : Nat) x, (j : Int) < settle → s[j]? = some x → x.id ≠ to) : fndB s to most settle = false := by
  cases hf : fndB s to most settle with
  | false => rfl
  | true =>
    obtain ⟨i, d, h1, h2, _⟩ := fndB_iff.1 hf
    exact absurd rfl (h i _ h1 h2)
theorem fnd_at {s : List It} {to most settle : Int} (h1 : One s) {k : Nat} {x : It} (hk : (k : Int) < settle) (hx : s[k]? = some x) (he : x.id = to) : fndB s to most settle = decide (x.key ≤ most) := by
  rw [Bool.eq_iff_iff, fndB_iff, decide_eq_true_iff]
  constructor
  · rintro ⟨i, d, _, h2, h3⟩
    have := h1 x (List.mem_of_getElem? hx) _ (List.mem_of_getElem? h2) he
    rw [this]; exact h3
  · intro h3
    exact ⟨k, x.key, hk, by rw [hx, ← he], h3⟩

theorem rWitness_i {w : World} {g : Nat} {s : Sl} {n : Nat} {L : List Arc} {a to c most settle : Int} {Q : Bool → World → Prop} (h : RNetIs w g s n L) (hs : settle < 1000000)
    (hQ : ∀ w', Keep w w' → Q (witB n L a to c most settle) w') : F_ref4_Net_Witness (some ⟨g, 0, none⟩) a to c most settle w Q := by
  unfold F_ref4_Net_Witness
  have hL := h.ok
  have hn := h.sz
  refine onSome_i rfl (ld1_i (k := .int .i64) (n : Int) h.c0 ?_)
  rw [w64 (n := (n : Int) - 1) (by omega) (by omega)]
  refine within_i fun r1 hr1 => ?_
  refine cond_i (fun hb => ?_) (fun hb => ?_)
  · have : ¬ (0 ≤ a ∧ a < n) := fun h => by rw [hr1.2 ⟨h.1, by omega⟩] at hb; cases hb
    have e : witB n L a to c most settle = false := by unfold witB; simp only [this, decide_false, Bool.false_and]
    rw [← e]; exact hQ w (Mod.refl _ _)
  have ha := hr1.1 (by cases r1 <;> simp at hb ⊢)
  have ha0 : 0 ≤ a := ha.1
  have ha1 : a < n := by omega
  refine onSome_i rfl (ld1_i (k := .int .i64) (n : Int) h.c0 ?_)
  rw [w64 (n := (n : Int) - 1) (by omega) (by omega)]
  refine within_i fun r2 hr2 => ?_
  refine cond_i (fun hb => ?_) (fun hb => ?_)
  · have : ¬ (0 ≤ to ∧ to < n) := fun h => by rw [hr2.2 ⟨h.1, by omega⟩] at hb; cases hb
    have e : witB n L a to c most settle = false := by unfold witB; simp only [this, decide_false, Bool.false_and, Bool.and_false]
    rw [← e]; exact hQ w (Mod.refl _ _)
  have ht := hr2.1 (by cases r2 <;> simp at hb ⊢)
  refine cond_i (fun he => ?_) (fun hne => ?_)
  · have : a = c := by simpa using he
    have e : witB n L a to c most settle = false := by unfold witB; simp [this]
    rw [← e]; exact hQ w (Mod.refl _ _)
  have hac : a ≠ c := by simpa using hne
  have e0 : witB n L a to c most settle = fndB (settled n L c a) to most settle := by
    unfold witB
    rw [decide_eq_true (show 0 ≤ a ∧ a < n from ⟨ha0, ha1⟩), decide_eq_true (show 0 ≤ to ∧ to < n from ⟨ht.1, by omega⟩), decide_eq_true hac]; rfl
  rw [e0] at hQ
  simp only [allocD]
  have k1 := Keep.alloc w (.cells #[Value.slice none 0 0] 74)
  have o1 : Own (w.alloc (.cells #[Value.slice none 0 0] 74)) w.heap.size tRHeap [sv ⟨none, 0, 0⟩] := Own.alloc' w _ _
  have z1 : (w.alloc (.cells #[Value.slice none 0 0] 74)).heap.size = w.heap.size + 1 := by simp
  generalize w.alloc (.cells #[Value.slice none 0 0] 74) = w1 at *
  generalize hB : w.heap.size = B at *
  have hH1 : RHeapIs w1 B ⟨none, 0, 0⟩ [] := ⟨o1, Rd.nil _ _ _, (fun a ha => by cases ha), List.Pairwise.nil, (fun x hx => by cases hx)⟩
  refine RPush_i hH1 (by simp) fun w4 sH h4 m4 f4 => ?_
  have hp0 : (pushQ [] a 0).1 = [⟨a, 0⟩] := rfl
  rw [hp0] at h4
  have K4 : Keep w w4 := k1.fresh m4 fun k e => by rw [show k = B from e]; omega
  have fH : ∀ k, hhas B sH k → B ≤ k := fun k hk => (f4 k hk).elim (fun h' => by
    rcases h' with rfl | ⟨a, ha, _⟩
    · exact Nat.le_refl _
    · cases ha) fun h' => by omega
  have hR4 := h.keep K4
  refine onSome_i rfl (ld1_i (k := .int .i64) (n : Int) hR4.c0 ?_)
  refine make_i elem_sBool (enc := eB) false rfl lenB (by omega) (Int.le_refl _) (by omega) (by omega) fun w5 v5 k5 => ?_
  simp only [Int.toNat_natCast] at v5 ⊢
  have h5 := h4.keep k5
  have hsz4 : B ≤ w4.heap.size := hB ▸ K4.size
  generalize hs1 : (⟨some ⟨w4.heap.size, 0, none⟩, n, n⟩ : Sl) = s1 at *
  have s1b : s1.b = some ⟨w4.heap.size, 0, none⟩ := by rw [← hs1]
  have ndH : ∀ k, hhas B sH k → k ≠ w4.heap.size := fun k hk e => by have := h4.lt hk; omega
  generalize hD : w4.heap.size = bD at *
  have hBD : B < bD := by have := h4.head.lt; omega
  refine loop_i (fun cnt t w6 => ∃ (k : Nat) (sH : Sl) (ds : List Bool), cnt = n + 1 - k ∧ t = ((k : Int), ()) ∧ k ≤ n ∧ (runQ L c a k).2.length = k ∧ RHeapIs w6 B sH (runQ L c a k).1 ∧ (∀ b, hhas B sH b → B ≤ b ∧ b ≠ bD) ∧
      Vec w6 tBool 1 eB s1 ds ∧ ds.length = n ∧ (∀ v : Int, 0 ≤ v → v < n → ds[v.toNat]? = some (isIn (runQ L c a k).2 v)) ∧ Keep w w6 ∧ (∀ j x, j < k → (settled n L c a)[j]? = some x → x.id ≠ to)) (n + 1)
    ⟨0, sH, List.replicate n false, rfl, rfl, Nat.zero_le _, rfl, h5, fun b hb => ⟨fH b hb, ndH b hb⟩, v5, by simp, fun v h0 h1 => ?_, K4.tr k5, fun j x hj => by omega⟩ ?_
  · rw [List.getElem?_replicate, if_pos (by omega)]; rfl
  rintro cnt t w6 ⟨k, sH, ds, rfl, rfl, hkn, hkl, h6, fB6, v6, dl, hds, K6, hno⟩ X hX
  have hinv := run_inv hL c ha0 ha1 k
  have hset := run_eq hL c ha0 ha1 k
  have hset1 := run_eq hL c ha0 ha1 (k + 1)
  have hstep : runQ L c a (k + 1) = stepQ L c (runQ L c a k) := rfl
  refine cond_d (fun hlt => ?_) (fun hge => ?_)
  · have hlt' : (k : Int) < settle := hlt
    cases hq : (runQ L c a k).1 with
    | nil =>
      rw [hq] at h6
      have hlen : (settled n L c a).length = k := by
        have h1 := settled_len hL c ha0 ha1
        rcases Nat.lt_or_ge k (settled n L c a).length with hlt2 | hge2
        · have e1 : (runQ L c a (k + 1)).2 = (runQ L c a k).2 := by rw [hstep]; unfold stepQ; rw [hq]
          rw [e1, hset] at hset1
          have := congrArg List.length hset1
          simp only [List.length_take] at this
          omega
        · have := congrArg List.length hset
          simp only [List.length_take] at this
          omega
      refine RPop_none h6 fun w7 k7 => ?_
      have k8 := Keep.alloc w7 (.cells #[Value.int .i64 0, Value.int .i64 0] 76)
      have o8 : Own (w7.alloc (.cells #[Value.int .i64 0, Value.int .i64 0] 76)) w7.heap.size tKey (eIt ⟨0, 0⟩) := Own.alloc' w7 _ _
      refine key_store0 (x := ⟨0, 0⟩) o8 rfl fun w9 o9 m9 => ?_
      refine cond_i (fun _ => ?_) (fun h => by simp at h)
      have e1 : fndB (settled n L c a) to most settle = false := fnd_none fun j x _ hx => hno j x (by have := (List.getElem?_eq_some_iff.1 hx).1; omega) hx
      rw [e1] at hQ
      exact hQ w9 ((K6.tr k7).tr (Mod.fresh k8 m9 fun b e => by rw [show b = w7.heap.size from e]; exact Nat.le_refl _))
    | cons x q =>
      rw [hq] at h6 hinv
      have hxb := hinv.bnd x (by simp)
      have hqlen : q.length ≤ n := by
        have := one_len (qsrt_nodup h6.srt) h6.one (n := n) fun y hy => (hinv.bnd y (by simp [hy])).2.2
        simp at this; omega
      have hkq : k < n := by have := hinv.len_q; omega
      have hst1 : (runQ L c a (k + 1)) = (pushes c ((runQ L c a k).2 ++ [x]) x.key q (outL L x.id), (runQ L c a k).2 ++ [x]) := by
        rw [hstep]; unfold stepQ; rw [hq]
      have hxk : (settled n L c a)[k]? = some x := by
        rw [hst1] at hset1
        have : ((settled n L c a).take (k + 1))[k]? = some x := by
          rw [← hset1, List.getElem?_append_right (by omega), hkl]; simp
        rwa [List.getElem?_take_of_lt (Nat.lt_succ_self k)] at this
      refine RPop_i h6 fun w7 sH7 h7 f7 m7 => ?_
      have K7 : Keep w w7 := K6.fresh m7 fun b e => by rw [show b = B from e]; omega
      have v7 := v6.mod m7 fun b hb e => by rw [s1b] at hb; cases hb; have e' : bD = B := e; omega
      have fB7 : ∀ b, hhas B sH7 b → B ≤ b ∧ b ≠ bD := fun b hb => fB6 b (f7 b hb)
      have k8 := Keep.alloc w7 (.cells #[Value.int .i64 0, Value.int .i64 0] 76)
      have o8 : Own (w7.alloc (.cells #[Value.int .i64 0, Value.int .i64 0] 76)) w7.heap.size tKey (eIt ⟨0, 0⟩) := Own.alloc' w7 _ _
      refine key_store0 (x := x) o8 rfl fun w9 o9 m9 => ?_
      have k79 : Keep w7 w9 := Mod.fresh k8 m9 fun b e => by rw [show b = w7.heap.size from e]; exact Nat.le_refl _
      have K9 := K7.tr k79
      have h9 := h7.keep k79
      have v9 := v7.mod k79 fun _ _ => id
      have hw7B : B ≤ w7.heap.size := hB ▸ K7.size
      have hw7D : bD < w7.heap.size := v7.lt s1b
      have n7 : ∀ b, hhas B sH7 b → b ≠ w7.heap.size := fun b hb e => by have := h7.lt hb; omega
      generalize w7.heap.size = b7 at *
      refine cond_i (fun h => by simp at h) (fun _ => ?_)
      refine ld1_i (k := .int .i64) x.id (by rw [addr_lit, o9.cell]; rfl) ?_
      refine cond_i (fun he => ?_) (fun hne => ?_)
      · have he' : x.id = to := by simpa using he
        refine ld1_i (k := .int .i64) x.key (by rw [addr_lit, o9.cell]; rfl) ?_
        have := fnd_at (most := most) (settled_One hL c ha0 ha1) hlt' hxk he'
        rw [this] at hQ
        exact hQ w9 K9
      · have hne' : x.id ≠ to := by simpa using hne
        refine ld1_i (k := .int .i64) x.id (by rw [addr_lit, o9.cell]; rfl) ?_
        have s1l : s1.l = n := by rw [← hs1]
        refine ⟨⟨hxb.2.2.1, by have := hxb.2.2.2; omega⟩, onSome_i rfl ?_⟩
        refine v9.store lenB s1b (i := x.id.toNat) (by have := hxb.2.2; omega) true rfl size_Bool (oneB true) fun w10 v10 m10 _ => ?_
        have m10' : Mod (fun b => b = bD) w9 w10 := m10
        have K10 : Keep w w10 := K9.fresh m10' fun b e => by rw [show b = bD from e]; omega
        have h10 := h9.mod m10' fun b hb e => (fB7 b hb).2 e
        have o10 := o9.mod m10' (show ¬ b7 = bD by omega)
        have hds1 : ∀ v : Int, 0 ≤ v → v < n → (ds.set x.id.toNat true)[v.toNat]? = some (isIn ((runQ L c a k).2 ++ [x]) v) := fun v h0 h1 => by
          have hi : isIn ((runQ L c a k).2 ++ [x]) v = (isIn (runQ L c a k).2 v || decide (x.id = v)) := by unfold isIn; rw [List.any_append]; simp
          rw [List.getElem?_set, hi]
          by_cases e : x.id = v
          · subst e
            rw [if_pos rfl, if_pos (by omega)]; simp
          · rw [if_neg (by have := hxb.2.2; omega), hds v h0 h1]; simp [e]
        refine ld1_i (k := .int .i64) x.id (by rw [addr_lit, o10.cell]; rfl) ?_
        have hR10 := h.keep K10
        refine rOut_i hR10 (by have := hL.len hn; omega) fun s11 w11 v11 k11 f11 => ?_
        have hol := hL.out_len x.id
        have sl11 := v11.len
        have fr11 : ∀ b, s11.b = some b → ¬ hhas B sH7 b.block := fun b hb hh => by
          have h1 := f11 b hb
          have := h10.lt hh
          omega
        have hw10B : B < w10.heap.size := h10.head.lt
        refine loop_i (fun cnt t w12 => ∃ (i : Nat) (sH' : Sl), i ≤ (outL L x.id).length ∧ cnt = (outL L x.id).length - i ∧ t = ((i : Int), ()) ∧ RHeapIs w12 B sH' (pushes c ((runQ L c a k).2 ++ [x]) x.key q ((outL L x.id).take i)) ∧ (∀ b, hhas B sH' b → B ≤ b ∧ b ≠ bD) ∧
            Vec w12 tBool 1 eB s1 (ds.set x.id.toNat true) ∧ Own w12 b7 tKey (eIt x) ∧ Vec w12 tArc 4 eArc s11 (outL L x.id) ∧ Keep w w12 ∧ w11.heap.size ≤ w12.heap.size) (outL L x.id).length
          ⟨0, sH7, Nat.zero_le _, rfl, rfl, by simpa [pushes] using h10.keep k11, fB7, v10.mod k11 (fun _ _ => id), o10.mod k11 id, v11, K10.tr k11, Nat.le_refl _⟩ ?_
        rintro cnt t w12 ⟨i, sH', hi, rfl, rfl, h12, fB12, v12, o12, u12, K12, z12⟩ Y hY
        refine cond_d (fun hlt3 => ?_) (fun hge3 => ?_)
        · have hi' : i < (outL L x.id).length := by have : (i : Int) < (s11.l : Int) := hlt3; omega
          obtain ⟨p, hp, hh⟩ := rd_tup (u12.rd lenA) (List.getElem?_eq_getElem hi')
          have hmem := List.getElem_mem hi'
          have tk := pushes_snoc c ((runQ L c a k).2 ++ [x]) x.key q ((outL L x.id).take i) ((outL L x.id)[i])
          rw [← List.take_succ_eq_append_getElem hi'] at tk
          generalize (outL L x.id)[i] = e at *
          obtain ⟨heL, hef⟩ := mem_outL.1 hmem
          obtain ⟨_, _, et0, et1, _, ew0, ew1, _⟩ := hL.may e heL
          have bnd : 0 ≤ (i : Int) ∧ (i : Int) < (s11.l : Int) := ⟨by omega, by omega⟩
          have wi : IntKind.wrap .i64 ((i : Int) + 1) = ((i + 1 : Nat) : Int) := by rw [w64 (by omega) (by omega)]; rfl
          have skip : (e.t = c ∨ isIn ((runQ L c a k).2 ++ [x]) e.t = true) → Y (IntKind.wrap .i64 ((i : Int) + 1), ()) w12 := fun hc => by
            rw [wi]
            exact hY _ _ _ (by omega) ⟨i + 1, sH', hi', rfl, rfl, by rw [tk, if_pos hc]; exact h12, fB12, v12, o12, u12, K12, z12⟩
          show (0 ≤ (i : Int) ∧ (i : Int) < (s11.l : Int)) ∧ _
          rw [Int.toNat_natCast]
          refine ⟨bnd, onSome_i hp (ld1_i (k := .int .i64) e.t hh.2.1 ?_)⟩
          refine cond_i (fun hne2 => ?_) (fun heq => skip (.inl (by simpa using heq)))
          have hne2' : e.t ≠ c := by simpa using hne2
          refine ⟨bnd, onSome_i hp (ld1_i (k := .int .i64) e.t hh.2.1 ?_)⟩
          obtain ⟨pd, hpd, hcd⟩ := rd_cell (k := .bool) (e := fun x => x) (v12.rd lenB) (hds1 e.t et0 et1)
          obtain rfl : (⟨bD, 0, none⟩ : Addr) = pd := by rw [s1b] at hpd; exact Option.some.inj hpd
          refine ⟨⟨et0, by omega⟩, onSome_i rfl (ld1_i (k := .bool) _ hcd ?_)⟩
          cases hin : isIn ((runQ L c a k).2 ++ [x]) e.t with
          | true => exact cond_i (fun h => by cases h) (fun _ => skip (.inr hin))
          | false =>
            refine cond_i (fun _ => ?_) (fun h => by cases h)
            have dd : Keep w12 w12.drew := Mod.drew (Mod.refl _ w12)
            have hkey : x.key ≤ 512 * 1099511627776 := by
              have h1 := hxb.2.1
              omega
            have hpl : (pushes c ((runQ L c a k).2 ++ [x]) x.key q ((outL L x.id).take i)).length ≤ n := by
              refine one_len (qsrt_nodup h12.srt) h12.one fun y hy => ?_
              have hq1 := List.pairwise_cons.1 hinv.srt
              have hone : One q := fun u hu v hv => hinv.one u (by simp [hu]) v (by simp [hv])
              rcases (pushes_ok (c := c) (s := (runQ L c a k).2 ++ [x]) (d := x.key) (l := (outL L x.id).take i) hq1.2 hone).2.2.1 y hy with hyq | ⟨e', he', _, _, rfl⟩
              · exact (hinv.bnd y (by simp [hyq])).2.2
              · have := hL.may e' (mem_outL.1 (List.mem_of_mem_take he')).1
                exact ⟨this.2.2.1, this.2.2.2.1⟩
            have hhd : HoldsAt w12.drew (p.add (i * 4)) 0 (encs [.int .i64, .int .i64, .int .i64, .int .i64] (tupA e)) := holds_keep rfl hh
            have od := o12.mod dd id
            refine ⟨bnd, onSome_i hp (ld1_i (k := .int .i64) e.t hhd.2.1 (ld1_i (k := .int .i64) x.key (by rw [addr_lit, od.cell]; rfl) ⟨bnd, onSome_i hp (ld1_i (k := .int .i64) e.w hhd.2.2.1 ?_)⟩))⟩
            rw [w64 (n := x.key + e.w) (by omega) (by omega)]
            refine RPush_i (h12.keep dd) (by omega) fun w13 sH13 h13 m13 f13 => ?_
            have m13' : Mod (fun b => b = B) w12 w13 := dd.wk.tr m13
            rw [wi]
            have hD12 := v12.lt s1b
            refine hY _ _ _ (by omega) ⟨i + 1, sH13, hi', rfl, rfl, ?_, fun b hb => ?_, v12.mod m13' fun b hb e' => by rw [s1b] at hb; cases hb; have e'' : bD = B := e'; omega, o12.mod m13' (by omega), u12.mod m13' fun b hb e' => by have := f11 b hb; have e'' : b.block = B := e'; omega, K12.fresh m13' fun b e' => by rw [show b = B from e']; omega, Nat.le_trans z12 m13'.size⟩
            · rw [tk, if_neg (fun h => h.elim hne2' fun h => by rw [hin] at h; cases h)]
              exact h13
            · rcases f13 b hb with h | h
              · exact fB12 b h
              · have h' : w12.heap.size ≤ b := h
                have : B ≤ w12.heap.size := hB ▸ K12.size
                exact ⟨by omega, by have : bD < w12.heap.size := hD12; omega⟩
        · have hge3' : ¬ (i : Int) < (s11.l : Int) := hge3
          have ei : i = (outL L x.id).length := by omega
          subst ei
          rw [List.take_length] at h12
          show X (IntKind.wrap .i64 ((k : Int) + 1), ()) w12
          rw [w64 (by omega) (by omega)]
          refine hX (n + 1 - (k + 1)) _ _ (by omega) ⟨k + 1, sH', _, rfl, rfl, by omega, by rw [hst1]; simp [hkl], by rw [hst1]; exact h12, fB12, v12, by rw [List.length_set]; exact dl, by rw [hst1]; exact hds1, K12, fun j y hj hy => ?_⟩
          rcases Nat.lt_or_ge j k with h | h
          · exact hno j y h hy
          · have : j = k := by omega
            subst this
            rw [hxk] at hy; cases hy; exact hne'
  · have hge' : ¬ (k : Int) < settle := hge
    have e1 : fndB (settled n L c a) to most settle = false := fnd_none fun j x hj hx => hno j x (by omega) hx
    rw [e1] at hQ
    exact hQ w6 K6
end Go.Proofs.Ytadacfoiphklgaa
