/-
  CheckTells: what it computes.
-/
import Derived.Test.YtllhelkaligbdaaS
import Derived.Test.YtllhelkaligbdaaMpRow
namespace Go.Proofs.Ytllhelkaligbdaa
open Go Go.Den

theorem Round_i {k n : Int} {w : World} {Q : Int → World → Prop} (hn : 0 < n) (hm : n ≤ 9223372036854775807) (hQ : ∀ r, r = k % n → 0 ≤ r → r < n → Q r w) : F_alike_Round k n w Q := by
  unfold F_alike_Round
  refine ⟨by omega, ?_⟩
  have h1 := Int.tmod_lt_of_pos k hn
  have h2 : -n < k.tmod n := by
    have := Int.lt_tmod_of_pos k hn
    omega
  have h3 := Int.tmod_eq_emod (a := k) (b := n)
  have h4 := Int.emod_nonneg k (b := n) (by omega)
  have h5 := Int.emod_lt_of_pos k hn
  have h6 : (n.natAbs : Int) = n := by omega
  refine cond_d (fun h => ?_) (fun h => ?_)
  · rw [w64 (by omega) (by omega)]
    refine hQ _ ?_ (by omega) (by omega)
    rw [h3] at h ⊢
    split at h <;> rename_i hc
    · omega
    · simp only [hc, if_false]; omega
  · refine hQ _ ?_ (by omega) (by omega)
    rw [h3] at h ⊢
    split at h <;> rename_i hc
    · simp [hc]
    · omega

theorem elem25 : Elem Try.prog 25 22 1 24 [.slice none 0 0] := ⟨by kernel_rfl, by kernel_rfl, by decide, rfl⟩
theorem elem22 : Elem Try.prog 22 5 1 1 [.int .u8 0] := ⟨by kernel_rfl, by kernel_rfl, by decide, rfl⟩
theorem bytes_const {w : World} {C : Array Value} {n : Nat} {K : Sl → World → Prop} (l : List (BitVec 8)) (hC : C.toList = l.map fun b => Value.int .u8 (b.toNat : Int)) (hn : n = l.length)
    (hK : ∀ w' s, Keep w w' → Rd w' s 1 eB l → K s w') :
    convD Try.prog (.c .slice) 22 22 (.slice (some ⟨w.heap.size, 0, none⟩) n n) (w.alloc (.cells C 5)) K := by
  subst hn
  exact conv_bytes_const elem22.under (by kernel_rfl) fun w' hk hw => hK _ _ hk (rd_row1 hw (Nat.le_refl _) hC)

/-- A variadic call's own slice. -/
theorem parts_i {w : World} (ps : List (Sl × List (BitVec 8))) {C : Array Value} (hC : C.toList = ps.map fun p => Value.slice p.1.b p.1.l p.1.c) : Rd (w.alloc (.cells C 22)) ⟨some ⟨w.heap.size, 0, none⟩, ps.length, ps.length⟩ 1 eP ps :=
  rd_row1 (alloc_new w _) (Nat.le_refl _) hC

theorem sum_nine : ((sumOf [49#8, 50#8, 51#8, 52#8, 53#8, 54#8, 55#8, 56#8, 57#8]).toNat : Int) = 3808858755 := by decide +kernel
theorem sum_none : ((sumOf []).toNat : Int) = 0 := by decide +kernel

theorem awake_i {w : World} {Q : Bool → World → Prop} (hQ : ∀ w', Keep w w' → Q true w') : F_law2_awake w Q := by
  unfold F_law2_awake
  simp only [allocD]
  refine bytes_const [49#8, 50#8, 51#8, 52#8, 53#8, 54#8, 55#8, 56#8, 57#8] rfl rfl fun w1 s1 k1 r1 => ?_
  have k2 := Keep.alloc w1 (.cells #[Value.slice s1.b s1.l s1.c] 22)
  refine check_Sum_i (parts_i [(s1, [49#8, 50#8, 51#8, 52#8, 53#8, 54#8, 55#8, 56#8, 57#8])] rfl) (by
    intro p hp; simp at hp; subst hp
    exact r1.mod k2 (by simp) (fun _ _ => id)) (by simp) (by intro p hp; simp at hp; subst hp; simp) ?_
  simp only [List.flatMap_cons, List.flatMap_nil, List.append_nil, sum_nine]
  refine cond_i (fun _ => ?_) (fun h => by simp at h)
  refine check_Sum_i (ps := []) (Rd.nil _ _ _) (by simp) (by decide) (by simp) ?_
  simp only [List.flatMap_nil, sum_none]
  refine cond_i (fun _ => ?_) (fun h => by simp at h)
  refine bytes_const [49#8, 50#8, 51#8, 52#8, 53#8] rfl rfl fun w3 s3 k3 r3 => ?_
  refine bytes_const [54#8, 55#8, 56#8, 57#8] rfl rfl fun w4 s4 k4 r4 => ?_
  have k5 := Keep.alloc w4 (.cells #[Value.slice s3.b s3.l s3.c, Value.slice none 0 0, Value.slice s4.b s4.l s4.c] 22)
  refine check_Sum_i (parts_i [(s3, [49#8, 50#8, 51#8, 52#8, 53#8]), (⟨none, 0, 0⟩, []), (s4, [54#8, 55#8, 56#8, 57#8])] rfl) (by
    intro p hp; simp at hp
    rcases hp with rfl | rfl | rfl
    · exact (r3.mod k4 (by simp) (fun _ _ => id)).mod k5 (by simp) (fun _ _ => id)
    · exact Rd.nil _ _ _
    · exact r4.mod k5 (by simp) (fun _ _ => id)) (by simp) (by intro p hp; simp at hp; rcases hp with rfl | rfl | rfl <;> simp) ?_
  simp only [List.flatMap_cons, List.flatMap_nil, List.append_nil, List.nil_append, List.cons_append, sum_nine]
  exact hQ _ ((((k1.tr k2).tr k3).tr k4).tr k5)

theorem CheckTells_i {b cuts : Sl} {W : World} {Q : Bool → World → Prop} {bs : List (BitVec 8)} {cs : List Int} (hb : Rd W b 1 eB bs) (hc : Rd W cuts 1 (fun n => [Value.int .i64 n]) cs)
    (hQ : ∀ w', Since W w' → Q true w') : F_law2_CheckTells b cuts W Q := by
  unfold F_law2_CheckTells
  have hbl := hb.len
  have hcl := hc.len
  refine cond_d (fun h => awake_i fun w' k => hQ _ k.mod) (fun hb1 => ?_)
  refine cond_d (fun h => awake_i fun w' k => hQ _ k.mod) (fun hc1 => ?_)
  refine loop_i (fun n t w => ∃ (i : Nat) (l rest : Sl) (ps : List (Sl × List (BitVec 8))) (rbs : List (BitVec 8)), i ≤ cs.length ∧ n = cs.length - i ∧ t = (l, rest, (i : Int), ()) ∧ Since W w ∧
      Vec w 22 1 eP l ps ∧ (∀ a, l.b = some a → W.heap.size ≤ a.block) ∧ ps.length = i ∧ (∀ p ∈ ps, Rd W p.1 1 eB p.2 ∧ p.2.length ≤ bs.length) ∧ Rd W rest 1 eB rbs ∧ ps.flatMap (·.2) ++ rbs = bs) cs.length
    ⟨0, ⟨none, 0, 0⟩, b, [], bs, Nat.zero_le _, rfl, rfl, Mod.refl _ _, Vec.nil _ _ _ _, by simp, rfl, by simp, hb, rfl⟩ ?_
  rintro n t w ⟨i, l, rest, ps, rbs, hi, rfl, rfl, hs, hl, hlo, hpl, hps, hrest, hall⟩ X hX
  dsimp only
  have hrl := hrest.len
  have hrb : rbs.length ≤ bs.length := by rw [← hall]; simp
  refine cond_d (fun h => ?_) (fun h => ?_)
  · have hi' : i < cs.length := by omega
    refine ⟨⟨by omega, by omega⟩, ?_⟩
    obtain ⟨a, ha, hcell⟩ := get_one (hc.later hs (by simp)) i cs[i] (List.getElem?_eq_getElem hi')
    refine onSome_i ha (ld1_i (k := .int .i64) cs[i] hcell ?_)
    rw [w64 (by omega) (by omega)]
    refine Round_i (by omega) (by omega) fun r hr h0 h1 => ?_
    have hcap := hrest.cap
    refine ⟨⟨h0, by omega⟩, ?_⟩
    simp only [allocD]
    obtain ⟨k, rfl⟩ : ∃ k : Nat, r = (k : Int) := ⟨r.toNat, by omega⟩
    have hp1 : Rd W ⟨sliceAddr rest.b rest.c 0 1, k - 0, rest.c - 0⟩ 1 eB ((rbs.drop 0).take (k - 0)) := hrest.part (i := 0) (j := k) (c := rest.c) (by omega) (by omega) (by omega) (by omega)
    have hp2 : Rd W ⟨sliceAddr rest.b rest.c k 1, rest.l - k, rest.c - k⟩ 1 eB ((rbs.drop k).take (rest.l - k)) := hrest.part (i := k) (j := rest.l) (c := rest.c) (by omega) (by omega) (by omega) (by omega)
    generalize hq : (⟨sliceAddr rest.b rest.c 0 1, k - 0, rest.c - 0⟩ : Sl) = q at hp1
    have hw5 := Keep.alloc w (.cells #[Value.slice (sliceAddr rest.b rest.c 0 1) (Int.toNat (k : Int) - 0) (rest.c - 0)] 22)
    refine append_i elem25 (fun _ => rfl) (by simp [Value.oneCell']) (hl.mod hw5 (fun _ _ => id)) (x := ⟨some ⟨w.heap.size, 0, none⟩, 1, 1⟩) (ys := [(q, (rbs.drop 0).take (k - 0))]) (parts_i [(q, (rbs.drop 0).take (k - 0))] (by subst hq; rfl))
      (by simp; omega) (by simp; omega) fun r w6 hv hm hr _ => ?_
    refine ⟨⟨h0, by omega⟩, ?_⟩
    rw [w64 (by omega) (by omega)]
    refine hX (cs.length - (i + 1)) _ _ (by omega) ⟨i + 1, _, _, ps ++ [(q, (rbs.drop 0).take (k - 0))], (rbs.drop k).take (rest.l - k), by omega, rfl, rfl, ?_, hv, ?_, by simp [hpl], ?_, hp2, ?_⟩
    · exact (hs.keep hw5).trans hm fun j _ ⟨a, ha, hj⟩ => by rw [hj]; exact hlo a ha
    · intro a ha
      rcases hr with hr | ⟨a', ha', hlt⟩
      · exact hlo a (by rw [← hr]; exact ha)
      · rw [ha] at ha'; cases ha'; have := hs.size; have := hw5.size; omega
    · intro p hp
      rcases List.mem_append.1 hp with hp | hp
      · exact hps p hp
      · simp at hp; subst hp; exact ⟨hp1, by simp; omega⟩
    · rw [List.flatMap_append, ← hall, hrl, List.take_of_length_le (l := rbs.drop k) (by simp)]; simp
  · have hi' : i = cs.length := by omega
    simp only [allocD]
    have k1 := Keep.alloc w (.cells #[Value.slice b.b b.l b.c] 22)
    have s1 := hs.keep k1
    refine check_Sum_i (parts_i [(b, bs)] rfl) (by simp only [List.mem_singleton, forall_eq]; exact hb.later s1 (by simp)) (by simp) (by simp only [List.mem_singleton, forall_eq]; omega) ?_
    refine ref1_Sum_i (hb.later s1 (by simp)) (by omega) ?_
    refine cond_i (fun _ => ?_) (fun h => by simp at h)
    have k2 := Keep.alloc (w.alloc (.cells #[Value.slice b.b b.l b.c] 22)) (.cells #[Value.slice rest.b rest.l rest.c] 22)
    have s2 := s1.keep k2
    refine append_i elem25 (fun _ => rfl) (by simp [Value.oneCell']) ((hl.mod k1 (fun _ _ => id)).mod k2 (fun _ _ => id)) (x := ⟨some ⟨_, 0, none⟩, 1, 1⟩) (ys := [(rest, rbs)]) (parts_i [(rest, rbs)] rfl)
      (by simp; omega) (by simp; omega) fun r w6 hv hm hr _ => ?_
    have s3 : Since W w6 := s2.trans hm fun j _ ⟨a, ha, hj⟩ => by rw [hj]; exact hlo a ha
    refine check_Sum_i (hv.rd (fun _ => rfl)) (fun p hp => ?_) (by simp; omega) (fun p hp => ?_) ?_
    · rcases List.mem_append.1 hp with hp | hp
      · exact (hps p hp).1.later s3 (by simp)
      · simp at hp; subst hp; exact hrest.later s3 (by simp)
    · rcases List.mem_append.1 hp with hp | hp
      · have := (hps p hp).2; omega
      · simp at hp; subst hp; show rbs.length < _; omega
    · refine ref1_Sum_i (hb.later s3 (by simp)) (by omega) ?_
      simp only [List.flatMap_append, List.flatMap_cons, List.flatMap_nil, List.append_nil, hall]
      refine cond_i (fun _ => ?_) (fun h => by simp at h)
      exact awake_i fun w' k => hQ _ (s3.keep k)

end Go.Proofs.Ytllhelkaligbdaa
