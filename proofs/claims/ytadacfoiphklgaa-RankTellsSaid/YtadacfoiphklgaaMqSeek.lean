/-
  The program's search: numbers are settled, the nearest first, till it is told to stop.
-/
import Derived.Test.YtadacfoiphklgaaFWit
import Derived.Test.YtadacfoiphklgaaMqHeap3
import Derived.Test.YtadacfoiphklgaaMqNet2
namespace Go.Proofs.Ytadacfoiphklgaa
open Go Go.Den

theorem one_len {q : List It} (h : q.Nodup) (h1 : One q) {n : Nat} (hb : ∀ x ∈ q, 0 ≤ x.id ∧ x.id < n) : q.length ≤ n := by
  have : (q.map (·.id)).Nodup := List.pairwise_map.2 (List.Pairwise.imp_of_mem (fun {x y} hx hy hn e => hn (h1 x hx y hy e)) h)
  have := nodup_len this fun v hv => by obtain ⟨x, hx, rfl⟩ := List.mem_map.1 hv; exact hb x hx
  simpa using this

theorem witness_has_i {N : NetS} {n : Nat} {l : List Arc} {v : Int} {w : World} {Q : Bool → World → Prop} (h : NetIs w N n l) (hQ : ∀ r : Bool, (r = true ↔ 0 ≤ v ∧ v < n) → Q r w) : F_witness_has (some ⟨N.g, 0, none⟩) v w Q := by
  unfold F_witness_has
  refine cond_d (fun h0 => ?_) (fun h0 => hQ false (by simp; omega))
  exact Len_i h (hQ _ (by simp; omega))
theorem witness_has_none {v : Int} {w : World} {Q : Bool → World → Prop} (hQ : Q false w) : F_witness_has none v w Q := by
  unfold F_witness_has
  refine cond_d (fun h0 => ?_) (fun h0 => hQ)
  refine Len_none ?_
  have : decide (v < 0) = false := by simp; omega
  rw [this]; exact hQ

theorem seek_i {N : NetS} {n : Nat} {L : List Arc} {a c : Int} {done : Value} {W : World} {Q : World → Prop} (hN : NetIs W N n L) (ha : 0 ≤ a) (ha' : a < n) {D : Nat → Prop} {C : Nat → World → Prop} {stop : Nat → Bool}
    (hD : ∀ k, D k → k < W.heap.size) (hND : ∀ k, N.has k → ¬ D k) (h0 : C 0 W)
    (hCk : ∀ k w1 w2, C k w1 → Mod (fun b => W.heap.size ≤ b) w1 w2 → C k w2)
    (hcall : ∀ (k : Nat) (x : It) w1 (K : Value → World → Prop), C k w1 → (settled n L c a)[k]? = some x → (∀ w2, C (k + 1) w2 → Mod D w1 w2 → K (.bool (stop k)) w2) → callV Try.prog done [.int .i64 x.id, .int .i64 x.key] w1 K)
    (hQ : ∀ m w', C m w' → Mod D W w' → m ≤ (settled n L c a).length → (∀ j, j + 1 < m → stop j = false) → ((m = (settled n L c a).length ∧ ∀ j, j < m → stop j = false) ∨ ∃ j, m = j + 1 ∧ stop j = true) → Q w') : F_witness_seek (some ⟨N.g, 0, none⟩) a c done W Q := by
  unfold F_witness_seek
  have hL := hN.ok
  have hn := hN.sz
  simp only [allocD]
  have k1 := Keep.alloc W (.cells #[Value.slice none 0 0, Value.map none] 86)
  have o1 : Own (W.alloc (.cells #[Value.slice none 0 0, Value.map none] 86)) W.heap.size tHeap [sv ⟨none, 0, 0⟩, .map none] := Own.alloc' W _ _
  have s1 : (W.alloc (.cells #[Value.slice none 0 0, Value.map none] 86)).heap.size = W.heap.size + 1 := by simp
  generalize W.alloc (.cells #[Value.slice none 0 0, Value.map none] 86) = w1 at *
  generalize hB : W.heap.size = B at *
  have hH1 : HeapAny w1 ⟨B, B, ⟨none, 0, 0⟩⟩ [] := .inr ⟨rfl, rfl, rfl, o1⟩
  refine mapNew_i (ek := ekI) (kn := .c .bool) fun hm k2 => ?_
  have s2 : (w1.alloc (.map #[] 0)).heap.size = w1.heap.size + 1 := by simp
  have hH2 := hH1.keep k2
  generalize w1.alloc (.map #[] 0) = w2 at *
  have rB : B ≤ w1.heap.size := by omega
  have rH : ∀ k, HS.has ⟨B, B, ⟨none, 0, 0⟩⟩ k → k = B := by
    rintro k (h | h | ⟨a, ha, _⟩)
    · exact h
    · exact h
    · cases ha
  generalize hr : w1.heap.size = r at *
  have newD : ∀ {F : Nat → Prop} {wa wb : World}, Mod D W wa → Mod F wa wb → (∀ k, F k → B ≤ k) → Mod D W wb := fun ma mb hF => ma.trans mb fun k hk hk2 => absurd (hF k hk2) (by omega)
  have M2 : Mod D W w2 := (k1.wk).tr k2.wk
  have C2 : C 0 w2 := hCk 0 _ _ h0 ((k1.wk).tr k2.wk)
  refine Push_i hH2 (by simp) fun w3 H3 h3 g3 m3 f3 => ?_
  have hp0 : (pushQ [] a 0).1 = [⟨a, 0⟩] := rfl
  rw [hp0] at h3
  have m3B : ∀ k, HS.has ⟨B, B, ⟨none, 0, 0⟩⟩ k → B ≤ k := fun k hk => by rw [rH k hk]; exact Nat.le_refl _
  have M3 := newD M2 m3 m3B
  have C3 := hCk 0 _ _ C2 (m3.mono fun k _ hk => m3B k hk)
  have hm3 := hm.mod m3 fun hk => by have := rH r hk; omega
  have hg3 : H3.g = B := g3
  have fB : ∀ k, H3.has k → B ≤ k ∧ k ≠ r := fun k hk => (f3 k hk).elim (fun h => by rw [rH k h]; exact ⟨Nat.le_refl _, by omega⟩) fun h => ⟨by omega, by omega⟩
  refine loop_i (fun cnt t w4 => ∃ (k : Nat) (H : HS) (nm : Nat), cnt = n + 1 - k ∧ k ≤ n ∧ (runQ L c a k).2.length = k ∧ HeapIs w4 H (runQ L c a k).1 ∧ H.g = B ∧ (∀ b, H.has b → B ≤ b ∧ b ≠ r) ∧
      MapF w4 r ekI (.c .bool) (fun v => if isIn (runQ L c a k).2 v then some true else none) nm ∧ C k w4 ∧ Mod D W w4 ∧ (∀ j, j < k → stop j = false)) (n + 1)
    ⟨0, H3, 0, rfl, Nat.zero_le _, rfl, h3, hg3, fB, hm3.congr (fun v => rfl) rfl, C3, M3, fun j hj => by omega⟩ ?_
  rintro cnt t w4 ⟨k, H, nm, rfl, hkn, hkl, h4, hg4, fB4, hm4, C4, M4, hst⟩ X hX
  have hinv := run_inv hL c ha ha' k
  have hset := run_eq hL c ha ha' k
  have hset1 := run_eq hL c ha ha' (k + 1)
  have hstep : runQ L c a (k + 1) = stepQ L c (runQ L c a k) := rfl
  rw [← hg4]
  refine Len_h (.inl h4) ?_
  cases hq : (runQ L c a k).1 with
  | nil =>
    refine cond_d (fun h => by simp at h) (fun _ => ?_)
    have hlen : (settled n L c a).length = k := by
      have h1 := settled_len hL c ha ha'
      rcases Nat.lt_or_ge k (settled n L c a).length with hlt | hge
      · have e1 : (runQ L c a (k + 1)).2 = (runQ L c a k).2 := by
          rw [hstep]; unfold stepQ; rw [hq]
        rw [e1, hset] at hset1
        have := congrArg List.length hset1
        simp only [List.length_take] at this
        omega
      · have := congrArg List.length hset
        simp only [List.length_take] at this
        omega
    exact hQ k w4 C4 M4 (by omega) (fun j hj => hst j (by omega)) (.inl ⟨hlen.symm, hst⟩)
  | cons x q =>
    refine cond_d (fun _ => ?_) (fun h => absurd (by simp only [List.length_cons]; omega) h)
    rw [hq] at h4 hinv
    have hxb := hinv.bnd x (by simp)
    have hqlen : q.length ≤ n := by
      have := one_len (qsrt_nodup h4.srt) h4.one (n := n) fun y hy => (hinv.bnd y (by simp [hy])).2.2
      simp at this; omega
    have hkq : k < n := by have := hinv.len_q; omega
    have hst1 : (runQ L c a (k + 1)) = (pushes c ((runQ L c a k).2 ++ [x]) x.key q (outL L x.id), (runQ L c a k).2 ++ [x]) := by
      rw [hstep]; unfold stepQ; rw [hq]
    have hxk : (settled n L c a)[k]? = some x := by
      rw [hst1] at hset1
      have : ((settled n L c a).take (k + 1))[k]? = some x := by
        rw [← hset1, List.getElem?_append_right (by omega), hkl]; simp
      rwa [List.getElem?_take_of_lt (Nat.lt_succ_self k)] at this
    refine Pop_i h4 (by omega) fun w6 H6 h6 g6 f6 m6 => ?_
    have m6B : ∀ b, H.has b → B ≤ b := fun b hb => (fB4 b hb).1
    have M6 := newD M4 m6 m6B
    have C6 := hCk k _ _ C4 (m6.mono fun b _ hb => m6B b hb)
    have hm6 := hm4.mod m6 fun hb => (fB4 r hb).2 rfl
    have fB6 : ∀ b, H6.has b → B ≤ b ∧ b ≠ r := fun b hb => fB4 b ((f6 b).1 hb)
    refine update_i (kn := .c .bool) und_mIntBool keyInt hm6 x.id true fun w7 hm7 m7 _ => ?_
    have h7 := h6.mod m7 fun b hb e => (fB6 b hb).2 e
    have M7 := newD M6 m7 fun b e => by rw [show b = r from e]; exact rB
    have C7 := hCk k _ _ C6 (m7.mono fun b _ e => by rw [show b = r from e]; exact rB)
    have hm7' : MapF w7 r ekI (.c .bool) (fun v => if isIn ((runQ L c a k).2 ++ [x]) v then some true else none) _ := hm7.congr (fun v => by
      show (if isIn ((runQ L c a k).2 ++ [x]) v then some true else none) = if v = x.id then some true else if isIn (runQ L c a k).2 v then some true else none
      unfold isIn
      rw [List.any_append]
      by_cases e : v = x.id
      · subst e; simp
      · have : ¬ x.id = v := fun e' => e e'.symm
        simp [e, this]) rfl
    refine hcall k x w7 _ C7 hxk fun w8 C8 m8 => ⟨stop k, rfl, ?_⟩
    have M8 : Mod D W w8 := M7.tr m8
    have hDB : ∀ b, D b → b < B := hD
    have h8 := h7.mod m8 fun b hb hd => by have := (fB6 b hb).1; have := hDB b hd; omega
    have hm8 := hm7'.mod m8 fun hd => by have := hDB r hd; omega
    cases hsk : stop k with
    | true =>
      refine cond_i (fun _ => ?_) (fun h => by simp at h)
      have := (List.getElem?_eq_some_iff.1 hxk).1
      exact hQ (k + 1) w8 C8 M8 (by omega) (fun j hj => hst j (by omega)) (.inr ⟨k, rfl, hsk⟩)
    | false =>
      refine cond_i (fun h => by simp at h) (fun _ => ?_)
      refine Out_i (hN.mod M8 hND) fun s9 w9 v9 k9 f9 => ?_
      have M9 : Mod D W w9 := M8.tr k9.wk
      have C9 := hCk _ _ _ C8 k9.wk
      have h9 := h8.mod k9 fun _ _ => id
      have hm9 := hm8.mod k9 id
      have hw8 : B ≤ w8.heap.size := hB ▸ M8.size
      have sl9 := v9.len
      have fr9 : ∀ b, s9.b = some b → ¬ H6.has b.block ∧ b.block ≠ r ∧ b.block < w9.heap.size ∧ B ≤ b.block := fun b hb => by
        have h1 := f9 b hb
        exact ⟨fun h => by have := h8.lt h; omega, fun e => by have := hm8.lt; omega, v9.lt hb, by omega⟩
      have hol := hL.out_len x.id
      refine loop_i (fun cnt t w10 => ∃ (i : Nat) (H' : HS), i ≤ (outL L x.id).length ∧ cnt = (outL L x.id).length - i ∧ t = ((i : Int), ()) ∧ HeapIs w10 H' (pushes c ((runQ L c a k).2 ++ [x]) x.key q ((outL L x.id).take i)) ∧ H'.g = B ∧ (∀ b, H'.has b → B ≤ b ∧ b ≠ r) ∧
          (∀ b, s9.b = some b → ¬ H'.has b.block) ∧ (∃ nm', MapF w10 r ekI (.c .bool) (fun v => if isIn ((runQ L c a k).2 ++ [x]) v then some true else none) nm') ∧ C (k + 1) w10 ∧ Mod D W w10 ∧ Vec w10 tArc 4 eArc s9 (outL L x.id)) (outL L x.id).length
        ⟨0, H6, Nat.zero_le _, rfl, rfl, by simpa [pushes] using h9, g6.trans hg4, fB6, fun b hb => (fr9 b hb).1, ⟨_, hm9⟩, C9, M9, v9⟩ ?_
      rintro cnt t w10 ⟨i, H', hi, rfl, rfl, h10, g10, fB10, fs10, ⟨nm', hm10⟩, C10, M10, v10⟩ Y hY
      dsimp only
      refine cond_d (fun hlt => ?_) (fun hge => ?_)
      · have hi' : i < (outL L x.id).length := by omega
        refine ⟨⟨by omega, by omega⟩, ?_⟩
        obtain ⟨p, hp, hh⟩ := rd_tup (v10.rd lenA) (List.getElem?_eq_getElem hi')
        have hmem := List.getElem_mem hi'
        have tk := pushes_snoc c ((runQ L c a k).2 ++ [x]) x.key q ((outL L x.id).take i) ((outL L x.id)[i])
        rw [← List.take_succ_eq_append_getElem hi'] at tk
        generalize (outL L x.id)[i] = e at *
        obtain ⟨heL, hef⟩ := mem_outL.1 hmem
        obtain ⟨_, _, et0, et1, _, ew0, ew1, _⟩ := hL.may e heL
        refine onSome_i hp (ldN_i (tupA e) hh ?_)
        simp only [allocD]
        have kA := Keep.alloc w10 (.cells #[Value.int .i64 0, Value.int .i64 0, Value.int .i64 0, Value.int .i64 0] 42)
        have oA : Own (w10.alloc (.cells #[Value.int .i64 0, Value.int .i64 0, Value.int .i64 0, Value.int .i64 0] 42)) w10.heap.size 42 (eArc ⟨0, 0, 0, 0⟩) := Own.alloc' w10 _ _
        generalize w10.alloc (.cells #[Value.int .i64 0, Value.int .i64 0, Value.int .i64 0, Value.int .i64 0] 42) = wA at *
        refine zero_store (x := e) oA rfl fun w12 o12 m12 => ?_
        have k12 : Keep w10 w12 := Mod.fresh kA m12 fun b hb => by omega
        have h12 := h10.mod k12 fun _ _ => id
        have hm12 := hm10.mod k12 id
        have C12 := hCk _ _ _ C10 k12.wk
        have M12 : Mod D W w12 := M10.tr k12.wk
        have v12 := v10.mod k12 fun _ _ => id
        have c1 : w12.cell? ((⟨w10.heap.size, 0, none⟩ : Addr).add 1) = some (.int .i64 e.t) := by rw [addr_lit, o12.cell]; rfl
        have c2 : w12.cell? ((⟨w10.heap.size, 0, none⟩ : Addr).add 2) = some (.int .i64 e.w) := by rw [addr_lit, o12.cell]; rfl
        have wi : IntKind.wrap .i64 ((i : Int) + 1) = ((i + 1 : Nat) : Int) := by rw [w64 (by omega) (by omega)]; rfl
        have skip : (e.t = c ∨ isIn ((runQ L c a k).2 ++ [x]) e.t = true) → Y (IntKind.wrap .i64 ((i : Int) + 1), ()) w12 := fun hc => by
          rw [wi]
          exact hY _ _ _ (by omega) ⟨i + 1, H', hi', rfl, rfl, by rw [tk, if_pos hc]; exact h12, g10, fB10, fs10, ⟨_, hm12⟩, C12, M12, v12⟩
        refine ld1_i (k := .int .i64) e.t c1 ?_
        refine cond_i (fun hne => ?_) (fun heq => skip (.inl (by simpa using heq)))
        have hne' : e.t ≠ c := by simpa using hne
        refine ld1_i (k := .int .i64) e.t c1 ?_
        refine lookup1_i (kn := .c .bool) und_mIntBool keyInt (z := false) zero_bool hm12 e.t ?_
        cases hin : isIn ((runQ L c a k).2 ++ [x]) e.t with
        | true =>
          exact cond_i (fun h => by cases h) (fun _ => skip (.inr hin))
        | false =>
          refine cond_i (fun _ => ?_) (fun h => by cases h)
          refine ld1_i (k := .int .i64) e.t c1 (ld1_i (k := .int .i64) e.w c2 ?_)
          have hkey : x.key ≤ 512 * 1099511627776 := by
            have h1 := hxb.2.1
            omega
          rw [w64 (n := x.key + e.w) (by omega) (by omega)]
          have hpl : (pushes c ((runQ L c a k).2 ++ [x]) x.key q ((outL L x.id).take i)).length ≤ n := by
            refine one_len (qsrt_nodup h10.srt) h10.one fun y hy => ?_
            have hq1 := List.pairwise_cons.1 hinv.srt
            have hone : One q := fun u hu v hv => hinv.one u (by simp [hu]) v (by simp [hv])
            rcases (pushes_ok (c := c) (s := (runQ L c a k).2 ++ [x]) (d := x.key) (l := (outL L x.id).take i) hq1.2 hone).2.2.1 y hy with hyq | ⟨e', he', _, _, rfl⟩
            · exact (hinv.bnd y (by simp [hyq])).2.2
            · have := hL.may e' (mem_outL.1 (List.mem_of_mem_take he')).1
              exact ⟨this.2.2.1, this.2.2.2.1⟩
          rw [hg4, ← g10]
          refine Push_i (.inl h12) (by omega) fun w14 H14 h14 g14 m14 f14 => ?_
          have m14B : ∀ b, H'.has b → B ≤ b := fun b hb => (fB10 b hb).1
          have hr12 := hm12.lt
          have hB12 : B ≤ w12.heap.size := hB ▸ M12.size
          rw [wi]
          refine hY _ _ _ (by omega) ⟨i + 1, H14, hi', rfl, rfl, ?_, by rw [g14, g10], fun b hb => ?_, fun b hb h => ?_, ⟨_, hm12.mod m14 fun h => (fB10 r h).2 rfl⟩, hCk _ _ _ C12 (m14.mono fun b _ hb => m14B b hb), newD M12 m14 m14B, v12.mod m14 fun b hb h => fs10 b hb h⟩
          · rw [tk, if_neg (fun h => h.elim hne' fun h => by rw [hin] at h; cases h)]
            exact h14
          · rcases f14 b hb with h | h
            · exact fB10 b h
            · exact ⟨by omega, by omega⟩
          · rcases f14 _ h with h | h
            · exact fs10 b hb h
            · have := v12.lt hb; omega
      · have e : i = (outL L x.id).length := by omega
        subst e
        rw [List.take_length] at h10
        refine hX (n + 1 - (k + 1)) _ _ (by omega) ⟨k + 1, H', _, rfl, by omega, by rw [hst1]; simp [hkl], by rw [hst1]; exact h10, g10, fB10, by rw [hst1]; exact hm10, C10, M10, fun j hj => ?_⟩
        rcases Nat.lt_or_ge j k with h | h
        · exact hst j h
        · have : j = k := by omega
          rw [this]; exact hsk
end Go.Proofs.Ytadacfoiphklgaa
