import Derived.Test.YtjjgcimlmjnaeaaGreatQ1
import Derived.Test.YtjjgcimlmjnaeaaGreatFWit
import Derived.Test.YtjjgcimlmjnaeaaGreatA2
namespace Go.Proofs.YtjjgcimlmjnaeaaGreat
open Go Go.Den
theorem Len_i {N : NetS} {n : Nat} {l : List Arc} {w : World} {Q : Int → World → Prop} (h : NetIs w N n l) (hQ : Q (n : Int) w) : F_nN_Len (some ⟨N.g, 0, none⟩) w Q := by
 unfold F_nN_Len
 refine cond_i (fun h => by simp at h) (fun _ => ?_)
 exact onSome_i rfl (ld1_i (k := .slice) ⟨some ⟨N.go, 0, none⟩, n, n⟩ h.at_.c0 hQ)
theorem has_i {N : NetS} {n : Nat} {l : List Arc} {v : Int} {w : World} {Q : Bool → World → Prop} (h : NetIs w N n l) (hQ : ∀ r : Bool, (r = true ↔ 0 ≤ v ∧ v < n) → Q r w) : F_nN_has (some ⟨N.g, 0, none⟩) v w Q := by
 unfold F_nN_has
 refine cond_d (fun h1 => Len_i h (hQ _ (by simp; omega))) (fun h1 => hQ _ (by simp; omega))
theorem Out_i {N : NetS} {n : Nat} {l : List Arc} {v : Int} {w : World} {Q : Sl → World → Prop} (h : NetIs w N n l) (hQ : ∀ s' w', Vec w' tArc 4 eArc s' (outL l v) → Keep w w' → (∀ b, s'.b = some b → w.heap.size ≤ b.block) → Q s' w') :
  F_nN_Out (some ⟨N.g, 0, none⟩) v w Q := by
 unfold F_nN_Out
 have hsz := h.sz
 refine has_i h fun r hr => cond_i (fun h1 => ?_) (fun h1 => ?_)
 ·have hn : outL l v = [] := by
   apply List.filter_eq_nil_iff.2
   intro x hx hxv
   have := h.ok.may x hx
   have e : x.f = v := by simpa using hxv
   have : r = true := hr.2 ⟨by rw [← e]; exact this.1, by rw [← e]; exact this.2.1⟩
   rw [this] at h1; cases h1
  exact hQ _ w (by rw [hn]; exact Vec.nil _ _ _ _) (Mod.refl _ _) (fun b hb => by cases hb)
 ·have hv := hr.1 (by cases r <;> simp at h1 ⊢)
  obtain ⟨u, rfl⟩ : ∃ u : Nat, v = (u : Int) := ⟨v.toNat, by omega⟩
  have hu : u < n := by omega
  refine onSome_i rfl (ld1_i (k := .slice) ⟨some ⟨N.go, 0, none⟩, n, n⟩ h.at_.c0 ?_)
  refine ⟨⟨by omega, by show _ < ((n : Nat) : Int); omega⟩, onSome_i rfl ?_⟩
  obtain ⟨s, hs, hcell⟩ := h.at_.out hu
  refine ld1_i (k := .slice) s hcell ?_
  have hrow := h.at_.row u s hs
  have hX : rowsOf n l u = outL l (u : Int) := by simp [rowsOf, hu]
  rw [hX] at hrow
  have := h.ok.out_len (u : Int)
  exact Clone_i (hrow.rd lenA) (by omega) hQ
theorem In_i {N : NetS} {n : Nat} {l : List Arc} {v : Int} {w : World} {Q : Sl → World → Prop} (h : NetIs w N n l) (hQ : ∀ s' w', Vec w' tArc 4 eArc s' (inL l v) → Keep w w' → (∀ b, s'.b = some b → w.heap.size ≤ b.block) → Q s' w') :
  F_nN_In (some ⟨N.g, 0, none⟩) v w Q := by
 unfold F_nN_In
 have hsz := h.sz
 refine has_i h fun r hr => cond_i (fun h1 => ?_) (fun h1 => ?_)
 ·have hn : inL l v = [] := by
   apply List.filter_eq_nil_iff.2
   intro x hx hxv
   have := h.ok.may x hx
   have e : x.t = v := by simpa using hxv
   have : r = true := hr.2 ⟨by rw [← e]; exact this.2.2.1, by rw [← e]; exact this.2.2.2.1⟩
   rw [this] at h1; cases h1
  exact hQ _ w (by rw [hn]; exact Vec.nil _ _ _ _) (Mod.refl _ _) (fun b hb => by cases hb)
 ·have hv := hr.1 (by cases r <;> simp at h1 ⊢)
  obtain ⟨u, rfl⟩ : ∃ u : Nat, v = (u : Int) := ⟨v.toNat, by omega⟩
  have hu : u < n := by omega
  refine onSome_i rfl (ld1_i (k := .slice) ⟨some ⟨N.gi, 0, none⟩, n, n⟩ h.at_.c1 ?_)
  refine ⟨⟨by omega, by show _ < ((n : Nat) : Int); omega⟩, onSome_i rfl ?_⟩
  obtain ⟨s, hs, hcell⟩ := h.at_.inn hu
  refine ld1_i (k := .slice) s hcell ?_
  have hrow := h.at_.row (n + u) s hs
  have hX : rowsOf n l (n + u) = inL l (u : Int) := by
   have : ¬ (n + u < n) := by omega
   simp only [rowsOf, this, if_false]; congr 1; omega
  rw [hX] at hrow
  have := h.ok.in_len (u : Int)
  exact Clone_i (hrow.rd lenA) (by omega) hQ
theorem zero_store {w : World} {g : Nat} {cs : List Value} {x : Arc} {K : World → Prop} (h : Own w g tArc cs) (hl : cs.length = 4) (hK : ∀ w', Own w' g tArc (eArc x) → Mod (fun k => k = g) w w' → K w') :
  storeD Tryz.prog tArc ⟨g, 0, none⟩ (arcV x) w K := by
 refine storeD_i h size_Arc (by simp [Value.cells, hl]) (by simp [Value.cells, Value.oneCell']) fun w' ho hm _ => hK w' ?_ hm
 have : cs.take 0 ++ (arcV x).cells.toList ++ cs.drop (0 + (arcV x).cells.size) = eArc x := by
  simp [Value.cells, List.drop_of_length_le (show cs.length ≤ 4 by omega)]
 rwa [this] at ho
theorem All_i {N : NetS} {n : Nat} {l : List Arc} {w : World} {Q : Sl → World → Prop} (h : NetIs w N n l) (hl : l.length < 1099511627776) (hQ : ∀ s' w', Vec w' tArc 4 eArc s' l → Keep w w' → (∀ b, s'.b = some b → w.heap.size ≤ b.block) → Q s' w') :
  F_nN_All (some ⟨N.g, 0, none⟩) w Q := by
 unfold F_nN_All
 have hsz := h.sz
 refine Len_i h ?_
 have flen : ∀ i, i ≤ n → ((List.range i).flatMap fun v : Nat => outL l (v : Int)).length ≤ l.length := by
  intro i hi
  have e := flat_outL h.ok
  obtain ⟨d, rfl⟩ : ∃ d, n = i + d := ⟨n - i, by omega⟩
  rw [List.range_add, List.flatMap_append] at e
  rw [← congrArg List.length e]; simp
 refine loop_i (fun m t w' => ∃ (i : Nat) (s : Sl), i ≤ n ∧ m = n - i ∧ t = (s, (i : Int), ()) ∧ Keep w w' ∧ Vec w' tArc 4 eArc s ((List.range i).flatMap fun v : Nat => outL l (v : Int)) ∧ (∀ b, s.b = some b → w.heap.size ≤ b.block)) n
  ⟨0, ⟨none, 0, 0⟩, Nat.zero_le _, rfl, rfl, Mod.refl _ _, Vec.nil _ _ _ _, fun b hb => by cases hb⟩ ?_
 rintro m t w' ⟨i, s, hi, rfl, rfl, hk, hv, hb⟩ X hX
 dsimp only
 have h' := h.keep hk
 refine cond_d (fun hlt => ?_) (fun hge => ?_)
 ·have hin : i < n := by omega
  refine onSome_i rfl (ld1_i (k := .slice) ⟨some ⟨N.go, 0, none⟩, n, n⟩ h'.at_.c0 ?_)
  refine ⟨⟨by omega, by show _ < ((n : Nat) : Int); omega⟩, onSome_i rfl ?_⟩
  obtain ⟨r, hr, hcell⟩ := h'.at_.out hin
  refine ld1_i (k := .slice) r hcell ?_
  have hrow := h'.at_.row i r hr
  have hXr : rowsOf n l i = outL l (i : Int) := by simp [rowsOf, hin]
  rw [hXr] at hrow
  have hsum := flen (i + 1) hin
  rw [List.range_succ, List.flatMap_append, List.length_append] at hsum
  simp only [List.flatMap_cons, List.flatMap_nil, List.append_nil] at hsum
  refine append_i elem_sArc lenA oneA hv (hrow.rd lenA) (by omega) (by omega) fun r2 w2 hv2 hm2 hb2 _ => ?_
  rw [w64 (by omega) (by omega)]
  refine hX (n - (i + 1)) _ _ (by omega) ⟨i + 1, r2, hin, rfl, rfl, Mod.fresh hk hm2 (fun k ⟨a, ha, hk⟩ => by rw [hk]; exact hb a ha), ?_, fun b hb' => ?_⟩
  ·rw [List.range_succ, List.flatMap_append]; simpa using hv2
  ·rcases hb2 with e | ⟨b', e, hlt⟩
   ·exact hb b (by rw [← e]; exact hb')
   ·rw [e] at hb'; cases hb'; have := hk.size; omega
 ·have hin : i = n := by omega
  subst hin
  rw [flat_outL h.ok] at hv
  exact hQ s w' hv hk hb
end Go.Proofs.YtjjgcimlmjnaeaaGreat

namespace Go.Proofs.YtjjgcimlmjnaeaaGreat
open Go Go.Den
theorem one_len {q : List It} (h : q.Nodup) (h1 : One q) {n : Nat} (hb : ∀ x ∈ q, 0 ≤ x.id ∧ x.id < n) : q.length ≤ n := by
 have : (q.map (·.id)).Nodup := List.pairwise_map.2 (List.Pairwise.imp_of_mem (fun {x y} hx hy hn e => hn (h1 x hx y hy e)) h)
 have := nodup_len this fun v hv => by obtain ⟨x, hx, rfl⟩ := List.mem_map.1 hv; exact hb x hx
 simpa using this
theorem witness_has_i {N : NetS} {n : Nat} {l : List Arc} {v : Int} {w : World} {Q : Bool → World → Prop} (h : NetIs w N n l) (hQ : ∀ r : Bool, (r = true ↔ 0 ≤ v ∧ v < n) → Q r w) : F_witness_has (some ⟨N.g, 0, none⟩) v w Q := by
 unfold F_witness_has
 refine cond_d (fun h0 => ?_) (fun h0 => hQ false (by simp; omega))
 exact Len_i h (hQ _ (by simp; omega))
theorem seek_i {N : NetS} {n : Nat} {L : List Arc} {a c : Int} {done : Value} {W : World} {Q : World → Prop} (hN : NetIs W N n L) (ha : 0 ≤ a) (ha' : a < n) {D : Nat → Prop} {C : Nat → World → Prop} {stop : Nat → Bool}
  (hD : ∀ k, D k → k < W.heap.size) (hND : ∀ k, N.has k → ¬ D k) (h0 : C 0 W)
  (hCk : ∀ k w1 w2, C k w1 → Mod (fun b => W.heap.size ≤ b) w1 w2 → C k w2)
  (hcall : ∀ (k : Nat) (x : It) w1 (K : Value → World → Prop), C k w1 → (settled n L c a)[k]? = some x → (∀ w2, C (k + 1) w2 → Mod D w1 w2 → K (.bool (stop k)) w2) → callV Tryz.prog done [.int .i64 x.id, .int .i64 x.key] w1 K)
  (hQ : ∀ m w', C m w' → Mod D W w' → m ≤ (settled n L c a).length → (∀ j, j + 1 < m → stop j = false) → ((m = (settled n L c a).length ∧ ∀ j, j < m → stop j = false) ∨ ∃ j, m = j + 1 ∧ stop j = true) → Q w') : F_witness_seek (some ⟨N.g, 0, none⟩) a c done W Q := by
 unfold F_witness_seek
 have hL := hN.ok
 have hn := hN.sz
 simp only [allocD]
 have k1 := Keep.alloc W (.cells #[Value.slice none 0 0, Value.map none] 181)
 have o1 : Own (W.alloc (.cells #[Value.slice none 0 0, Value.map none] 181)) W.heap.size tHeap [sv ⟨none, 0, 0⟩, .map none] := Own.alloc' W _ _
 have s1 : (W.alloc (.cells #[Value.slice none 0 0, Value.map none] 181)).heap.size = W.heap.size + 1 := by simp
 generalize W.alloc (.cells #[Value.slice none 0 0, Value.map none] 181) = w1 at *
 generalize hB : W.heap.size = B at *
 have hH1 : HeapAny w1 ⟨B, B, ⟨none, 0, 0⟩⟩ [] := .inr ⟨rfl, rfl, rfl, o1⟩
 refine mapNew_i (ek := ekI) (kn := .c .bool) fun hm k2 => ?_
 have s2 : (w1.alloc (.map #[] 0)).heap.size = w1.heap.size + 1 := by simp
 have hH2 := hH1.keep k2
 generalize w1.alloc (.map #[] 0) = w2 at *
 have rB : B ≤ w1.heap.size := by omega
 have rH : ∀ k, HS.has ⟨B, B, ⟨none, 0, 0⟩⟩ k → k = B := by
  rintro k (h | h | ⟨a, ha, _⟩)
  ·exact h
  ·exact h
  ·cases ha
 generalize hr : w1.heap.size = r at *
 have newD : ∀ {F : Nat → Prop} {wa wb : World}, Mod D W wa → Mod F wa wb → (∀ k, F k → B ≤ k) → Mod D W wb := fun ma mb hF => ma.trans mb fun k hk hk2 => absurd (hF k hk2) (by omega)
 have M2 : Mod D W w2 := (k1.wk).tr k2.wk
 have C2 : C 0 w2 := hCk 0 _ _ h0 ((k1.wk).tr k2.wk)
 refine Push_i hH2 (by simp) fun w3 H3 h3 g3 m3 f3 => ?_
 have hp0 : (pushQ [] a 0).1 = [⟨a, 0⟩] := rfl
 rw [hp0] at h3
 have m3B : ∀ k, HS.has ⟨B, B, ⟨none, 0, 0⟩⟩ k → B ≤ k := fun k hk => by rw [rH k hk]; exact Nat.le_refl _
 have M3 := newD M2 m3 m3B
 have C3 := hCk 0 _ _ C2 (m3.mono fun k _ hk => m3B k hk)
 have hm3 := hm.mod m3 fun hk => by have := rH r hk; omega
 have hg3 : H3.g = B := g3
 have fB : ∀ k, H3.has k → B ≤ k ∧ k ≠ r := fun k hk => (f3 k hk).elim (fun h => by rw [rH k h]; exact ⟨Nat.le_refl _, by omega⟩) fun h => ⟨by omega, by omega⟩
 refine loop_i (fun cnt t w4 => ∃ (k : Nat) (H : HS) (nm : Nat), cnt = n + 1 - k ∧ k ≤ n ∧ (runQ L c a k).2.length = k ∧ HeapIs w4 H (runQ L c a k).1 ∧ H.g = B ∧ (∀ b, H.has b → B ≤ b ∧ b ≠ r) ∧
   MapF w4 r ekI (.c .bool) (fun v => if isIn (runQ L c a k).2 v then some true else none) nm ∧ C k w4 ∧ Mod D W w4 ∧ (∀ j, j < k → stop j = false)) (n + 1)
  ⟨0, H3, 0, rfl, Nat.zero_le _, rfl, h3, hg3, fB, hm3.congr (fun v => rfl) rfl, C3, M3, fun j hj => by omega⟩ ?_
 rintro cnt t w4 ⟨k, H, nm, rfl, hkn, hkl, h4, hg4, fB4, hm4, C4, M4, hst⟩ X hX
 have hinv := run_inv hL c ha ha' k
 have hset := run_eq hL c ha ha' k
 have hset1 := run_eq hL c ha ha' (k + 1)
 have hstep : runQ L c a (k + 1) = stepQ L c (runQ L c a k) := rfl
 rw [← hg4]
 refine Len_h (.inl h4) ?_
 cases hq : (runQ L c a k).1 with
 | nil =>
  refine cond_d (fun h => by simp at h) (fun _ => ?_)
  have hlen : (settled n L c a).length = k := by
   have h1 := settled_len hL c ha ha'
   rcases Nat.lt_or_ge k (settled n L c a).length with hlt | hge
   ·have e1 : (runQ L c a (k + 1)).2 = (runQ L c a k).2 := by
     rw [hstep]; unfold stepQ; rw [hq]
    rw [e1, hset] at hset1
    have := congrArg List.length hset1
    simp only [List.length_take] at this
    omega
   ·have := congrArg List.length hset
    simp only [List.length_take] at this
    omega
  exact hQ k w4 C4 M4 (by omega) (fun j hj => hst j (by omega)) (.inl ⟨hlen.symm, hst⟩)
 | cons x q =>
  refine cond_d (fun _ => ?_) (fun h => absurd (by simp only [List.length_cons]; omega) h)
  rw [hq] at h4 hinv
  have hxb := hinv.bnd x (by simp)
  have hqlen : q.length ≤ n := by
   have := one_len (qsrt_nodup h4.srt) h4.one (n := n) fun y hy => (hinv.bnd y (by simp [hy])).2.2
   simp at this; omega
  have hkq : k < n := by have := hinv.len_q; omega
  have hst1 : (runQ L c a (k + 1)) = (pushes c ((runQ L c a k).2 ++ [x]) x.key q (outL L x.id), (runQ L c a k).2 ++ [x]) := by
   rw [hstep]; unfold stepQ; rw [hq]
  have hxk : (settled n L c a)[k]? = some x := by
   rw [hst1] at hset1
   have : ((settled n L c a).take (k + 1))[k]? = some x := by
    rw [← hset1, List.getElem?_append_right (by omega), hkl]; simp
   rwa [List.getElem?_take_of_lt (Nat.lt_succ_self k)] at this
  refine Pop_i h4 (by omega) fun w6 H6 h6 g6 f6 m6 => ?_
  have m6B : ∀ b, H.has b → B ≤ b := fun b hb => (fB4 b hb).1
  have M6 := newD M4 m6 m6B
  have C6 := hCk k _ _ C4 (m6.mono fun b _ hb => m6B b hb)
  have hm6 := hm4.mod m6 fun hb => (fB4 r hb).2 rfl
  have fB6 : ∀ b, H6.has b → B ≤ b ∧ b ≠ r := fun b hb => fB4 b ((f6 b).1 hb)
  refine update_i (kn := .c .bool) und_mIntBool keyInt hm6 x.id true fun w7 hm7 m7 _ => ?_
  have h7 := h6.mod m7 fun b hb e => (fB6 b hb).2 e
  have M7 := newD M6 m7 fun b e => by rw [show b = r from e]; exact rB
  have C7 := hCk k _ _ C6 (m7.mono fun b _ e => by rw [show b = r from e]; exact rB)
  have hm7' : MapF w7 r ekI (.c .bool) (fun v => if isIn ((runQ L c a k).2 ++ [x]) v then some true else none) _ := hm7.congr (fun v => by
   show (if isIn ((runQ L c a k).2 ++ [x]) v then some true else none) = if v = x.id then some true else if isIn (runQ L c a k).2 v then some true else none
   unfold isIn
   rw [List.any_append]
   by_cases e : v = x.id
   ·subst e; simp
   ·have : ¬ x.id = v := fun e' => e e'.symm
    simp [e, this]) rfl
  refine hcall k x w7 _ C7 hxk fun w8 C8 m8 => ⟨stop k, rfl, ?_⟩
  have M8 : Mod D W w8 := M7.tr m8
  have hDB : ∀ b, D b → b < B := hD
  have h8 := h7.mod m8 fun b hb hd => by have := (fB6 b hb).1; have := hDB b hd; omega
  have hm8 := hm7'.mod m8 fun hd => by have := hDB r hd; omega
  cases hsk : stop k with
  | true =>
   refine cond_i (fun _ => ?_) (fun h => by simp at h)
   have := (List.getElem?_eq_some_iff.1 hxk).1
   exact hQ (k + 1) w8 C8 M8 (by omega) (fun j hj => hst j (by omega)) (.inr ⟨k, rfl, hsk⟩)
  | false =>
   refine cond_i (fun h => by simp at h) (fun _ => ?_)
   refine Out_i (hN.mod M8 hND) fun s9 w9 v9 k9 f9 => ?_
   have M9 : Mod D W w9 := M8.tr k9.wk
   have C9 := hCk _ _ _ C8 k9.wk
   have h9 := h8.mod k9 fun _ _ => id
   have hm9 := hm8.mod k9 id
   have hw8 : B ≤ w8.heap.size := hB ▸ M8.size
   have sl9 := v9.len
   have fr9 : ∀ b, s9.b = some b → ¬ H6.has b.block ∧ b.block ≠ r ∧ b.block < w9.heap.size ∧ B ≤ b.block := fun b hb => by
    have h1 := f9 b hb
    exact ⟨fun h => by have := h8.lt h; omega, fun e => by have := hm8.lt; omega, v9.lt hb, by omega⟩
   have hol := hL.out_len x.id
   refine loop_i (fun cnt t w10 => ∃ (i : Nat) (H' : HS), i ≤ (outL L x.id).length ∧ cnt = (outL L x.id).length - i ∧ t = ((i : Int), ()) ∧ HeapIs w10 H' (pushes c ((runQ L c a k).2 ++ [x]) x.key q ((outL L x.id).take i)) ∧ H'.g = B ∧ (∀ b, H'.has b → B ≤ b ∧ b ≠ r) ∧
     (∀ b, s9.b = some b → ¬ H'.has b.block) ∧ (∃ nm', MapF w10 r ekI (.c .bool) (fun v => if isIn ((runQ L c a k).2 ++ [x]) v then some true else none) nm') ∧ C (k + 1) w10 ∧ Mod D W w10 ∧ Vec w10 tArc 4 eArc s9 (outL L x.id)) (outL L x.id).length
    ⟨0, H6, Nat.zero_le _, rfl, rfl, by simpa [pushes] using h9, g6.trans hg4, fB6, fun b hb => (fr9 b hb).1, ⟨_, hm9⟩, C9, M9, v9⟩ ?_
   rintro cnt t w10 ⟨i, H', hi, rfl, rfl, h10, g10, fB10, fs10, ⟨nm', hm10⟩, C10, M10, v10⟩ Y hY
   dsimp only
   refine cond_d (fun hlt => ?_) (fun hge => ?_)
   ·have hi' : i < (outL L x.id).length := by omega
    refine ⟨⟨by omega, by omega⟩, ?_⟩
    obtain ⟨p, hp, hh⟩ := rd_tup (v10.rd lenA) (List.getElem?_eq_getElem hi')
    have hmem := List.getElem_mem hi'
    have tk := pushes_snoc c ((runQ L c a k).2 ++ [x]) x.key q ((outL L x.id).take i) ((outL L x.id)[i])
    rw [← List.take_succ_eq_append_getElem hi'] at tk
    generalize (outL L x.id)[i] = e at *
    obtain ⟨heL, hef⟩ := mem_outL.1 hmem
    obtain ⟨_, _, et0, et1, _, ew0, ew1, _⟩ := hL.may e heL
    refine onSome_i hp (ldN_i (tupA e) hh ?_)
    simp only [allocD]
    have kA := Keep.alloc w10 (.cells #[Value.int .i64 0, Value.int .i64 0, Value.int .i64 0, Value.int .i64 0] 91)
    have oA : Own (w10.alloc (.cells #[Value.int .i64 0, Value.int .i64 0, Value.int .i64 0, Value.int .i64 0] 91)) w10.heap.size 91 (eArc ⟨0, 0, 0, 0⟩) := Own.alloc' w10 _ _
    generalize w10.alloc (.cells #[Value.int .i64 0, Value.int .i64 0, Value.int .i64 0, Value.int .i64 0] 91) = wA at *
    refine zero_store (x := e) oA rfl fun w12 o12 m12 => ?_
    have k12 : Keep w10 w12 := Mod.fresh kA m12 fun b hb => by omega
    have h12 := h10.mod k12 fun _ _ => id
    have hm12 := hm10.mod k12 id
    have C12 := hCk _ _ _ C10 k12.wk
    have M12 : Mod D W w12 := M10.tr k12.wk
    have v12 := v10.mod k12 fun _ _ => id
    have c1 : w12.cell? ((⟨w10.heap.size, 0, none⟩ : Addr).add 1) = some (.int .i64 e.t) := by rw [addr_lit, o12.cell]; rfl
    have c2 : w12.cell? ((⟨w10.heap.size, 0, none⟩ : Addr).add 2) = some (.int .i64 e.w) := by rw [addr_lit, o12.cell]; rfl
    have wi : IntKind.wrap .i64 ((i : Int) + 1) = ((i + 1 : Nat) : Int) := by rw [w64 (by omega) (by omega)]; rfl
    have skip : (e.t = c ∨ isIn ((runQ L c a k).2 ++ [x]) e.t = true) → Y (IntKind.wrap .i64 ((i : Int) + 1), ()) w12 := fun hc => by
     rw [wi]
     exact hY _ _ _ (by omega) ⟨i + 1, H', hi', rfl, rfl, by rw [tk, if_pos hc]; exact h12, g10, fB10, fs10, ⟨_, hm12⟩, C12, M12, v12⟩
    refine ld1_i (k := .int .i64) e.t c1 ?_
    refine cond_i (fun hne => ?_) (fun heq => skip (.inl (by simpa using heq)))
    have hne' : e.t ≠ c := by simpa using hne
    refine ld1_i (k := .int .i64) e.t c1 ?_
    refine lookup1_i (kn := .c .bool) und_mIntBool keyInt (z := false) zero_bool hm12 e.t ?_
    cases hin : isIn ((runQ L c a k).2 ++ [x]) e.t with
    | true =>
     exact cond_i (fun h => by cases h) (fun _ => skip (.inr hin))
    | false =>
     refine cond_i (fun _ => ?_) (fun h => by cases h)
     refine ld1_i (k := .int .i64) e.t c1 (ld1_i (k := .int .i64) e.w c2 ?_)
     have hkey : x.key ≤ 512 * 1099511627776 := by
      have h1 := hxb.2.1
      omega
     rw [w64 (n := x.key + e.w) (by omega) (by omega)]
     have hpl : (pushes c ((runQ L c a k).2 ++ [x]) x.key q ((outL L x.id).take i)).length ≤ n := by
      refine one_len (qsrt_nodup h10.srt) h10.one fun y hy => ?_
      have hq1 := List.pairwise_cons.1 hinv.srt
      have hone : One q := fun u hu v hv => hinv.one u (by simp [hu]) v (by simp [hv])
      rcases (pushes_ok (c := c) (s := (runQ L c a k).2 ++ [x]) (d := x.key) (l := (outL L x.id).take i) hq1.2 hone).2.2.1 y hy with hyq | ⟨e', he', _, _, rfl⟩
      ·exact (hinv.bnd y (by simp [hyq])).2.2
      ·have := hL.may e' (mem_outL.1 (List.mem_of_mem_take he')).1
       exact ⟨this.2.2.1, this.2.2.2.1⟩
     rw [hg4, ← g10]
     refine Push_i (.inl h12) (by omega) fun w14 H14 h14 g14 m14 f14 => ?_
     have m14B : ∀ b, H'.has b → B ≤ b := fun b hb => (fB10 b hb).1
     have hr12 := hm12.lt
     have hB12 : B ≤ w12.heap.size := hB ▸ M12.size
     rw [wi]
     refine hY _ _ _ (by omega) ⟨i + 1, H14, hi', rfl, rfl, ?_, by rw [g14, g10], fun b hb => ?_, fun b hb h => ?_, ⟨_, hm12.mod m14 fun h => (fB10 r h).2 rfl⟩, hCk _ _ _ C12 (m14.mono fun b _ hb => m14B b hb), newD M12 m14 m14B, v12.mod m14 fun b hb h => fs10 b hb h⟩
     ·rw [tk, if_neg (fun h => h.elim hne' fun h => by rw [hin] at h; cases h)]
      exact h14
     ·rcases f14 b hb with h | h
      ·exact fB10 b h
      ·exact ⟨by omega, by omega⟩
     ·rcases f14 _ h with h | h
      ·exact fs10 b hb h
      ·have := v12.lt hb; omega
   ·have e : i = (outL L x.id).length := by omega
    subst e
    rw [List.take_length] at h10
    refine hX (n + 1 - (k + 1)) _ _ (by omega) ⟨k + 1, H', _, rfl, by omega, by rw [hst1]; simp [hkl], by rw [hst1]; exact h10, g10, fB10, by rw [hst1]; exact hm10, C10, M10, fun j hj => ?_⟩
    rcases Nat.lt_or_ge j k with h | h
    ·exact hst j h
    ·have : j = k := by omega
     rw [this]; exact hsk
end Go.Proofs.YtjjgcimlmjnaeaaGreat

namespace Go.Proofs.YtjjgcimlmjnaeaaGreat
open Go Go.Den
theorem own_cell {w : World} {g : Nat} {e : TypeId} {v : Value} (h : Own w g e [v]) : w.cell? ⟨g, 0, none⟩ = some v := by rw [h.cell]; rfl
theorem Find_c1_i {b1 b2 b3 b4 : Nat} {v d to most st : Int} {fd : Bool} {w : World} {K : Bool → World → Prop} (o1 : Own w b1 tInt [.int .i64 to]) (o2 : Own w b2 tInt [.int .i64 most]) (o3 : Own w b3 tInt [.int .i64 st]) (o4 : Own w b4 tBool [.bool fd])
  (h1 : b1 ≠ b3) (h2 : b2 ≠ b3) (h3 : b3 ≠ b4) (h4 : b1 ≠ b4) (h5 : b2 ≠ b4) (hst : -1000000 < st ∧ st < 2000000)
  (hK : ∀ w', Own w' b1 tInt [.int .i64 to] → Own w' b2 tInt [.int .i64 most] → Own w' b3 tInt [.int .i64 (st - 1)] → Own w' b4 tBool [.bool (decide (v = to) && decide (d ≤ most))] → Mod (fun b => b = b3 ∨ b = b4) w w' → K (decide (v = to) || decide (st - 1 = 0)) w') :
  F_witness_Find_c1 v d (some ⟨b3, 0, none⟩) (some ⟨b1, 0, none⟩) (some ⟨b2, 0, none⟩) (some ⟨b4, 0, none⟩) w K := by
 unfold F_witness_Find_c1
 refine onSome_i rfl (ld1_i (k := .int .i64) st (own_cell o3) (onSome_i rfl ?_))
 rw [w64 (by omega) (by omega)]
 refine storeD1_i o3 size_Int (by simp) rfl rfl fun w1 p3 m1 _ => ?_
 have p1 := o1.mod m1 h1
 have p2 := o2.mod m1 h2
 have p4 := o4.mod m1 (Ne.symm h3)
 have p3' : Own w1 b3 tInt [.int .i64 (st - 1)] := p3
 refine onSome_i rfl (ld1_i (k := .int .i64) to (own_cell p1) ?_)
 refine cond_i (fun he => ?_) (fun he => ?_)
 ·have he' : v = to := by simpa using he
  refine onSome_i rfl (ld1_i (k := .int .i64) most (own_cell p2) (onSome_i rfl ?_))
  refine storeD1_i p4 size_Bool (by simp) rfl rfl fun w2 q4 m2 _ => ?_
  refine onSome_i rfl (ld1_i (k := .int .i64) to (own_cell (p1.mod m2 h4)) ?_)
  refine cond_i (fun _ => ?_) (fun h => by rw [he] at h; cases h)
  have := hK w2 (p1.mod m2 h4) (p2.mod m2 h5) (p3'.mod m2 h3) (by simpa [he'] using q4) ((m1.mono fun b _ h => .inl h).tr (m2.mono fun b _ h => .inr h))
  simpa [he'] using this
 ·have he' : v ≠ to := by simpa using he
  refine onSome_i rfl ?_
  refine storeD1_i p4 size_Bool (by simp) rfl rfl fun w2 q4 m2 _ => ?_
  refine onSome_i rfl (ld1_i (k := .int .i64) to (own_cell (p1.mod m2 h4)) ?_)
  refine cond_i (fun h => by rw [he] at h; cases h) (fun _ => ?_)
  refine onSome_i rfl (ld1_i (k := .int .i64) (st - 1) (own_cell (p3'.mod m2 h3)) ?_)
  have := hK w2 (p1.mod m2 h4) (p2.mod m2 h5) (p3'.mod m2 h3) (by simpa [he'] using q4) ((m1.mono fun b _ h => .inl h).tr (m2.mono fun b _ h => .inr h))
  have e : (decide (v = to) || decide (st - 1 = 0)) = ((st - 1 : Int) == (0 : Int)) := by rw [Bool.eq_iff_iff]; simp [he']
  rw [e] at this; exact this
theorem Find_i {N : NetS} {n : Nat} {L : List Arc} {a to c most settle : Int} {w : World} {Q : Bool → World → Prop} (h : NetIs w N n L) (hs : settle < 1000000) (hQ : ∀ w', Keep w w' → Q (witB n L a to c most settle) w') :
  F_witness_Find (some ⟨N.g, 0, none⟩) a to c most settle w Q := by
 unfold F_witness_Find
 simp only [allocD]
 have k1 := Keep.alloc w (.cells #[Value.int .i64 to] 3)
 have o1 : Own (w.alloc (.cells #[Value.int .i64 to] 3)) w.heap.size tInt [.int .i64 to] := Own.alloc' w _ _
 have z1 : (w.alloc (.cells #[Value.int .i64 to] 3)).heap.size = w.heap.size + 1 := by simp
 generalize w.alloc (.cells #[Value.int .i64 to] 3) = w1 at *
 have k2 := Keep.alloc w1 (.cells #[Value.int .i64 most] 3)
 have o2 : Own (w1.alloc (.cells #[Value.int .i64 most] 3)) w1.heap.size tInt [.int .i64 most] := Own.alloc' w1 _ _
 have z2 : (w1.alloc (.cells #[Value.int .i64 most] 3)).heap.size = w1.heap.size + 1 := by simp
 generalize w1.alloc (.cells #[Value.int .i64 most] 3) = w2 at *
 have k3 := Keep.alloc w2 (.cells #[Value.int .i64 settle] 3)
 have o3 : Own (w2.alloc (.cells #[Value.int .i64 settle] 3)) w2.heap.size tInt [.int .i64 settle] := Own.alloc' w2 _ _
 have z3 : (w2.alloc (.cells #[Value.int .i64 settle] 3)).heap.size = w2.heap.size + 1 := by simp
 generalize w2.alloc (.cells #[Value.int .i64 settle] 3) = w3 at *
 have k4 := Keep.alloc w3 (.cells #[Value.bool false] 4)
 have o4 : Own (w3.alloc (.cells #[Value.bool false] 4)) w3.heap.size tBool [.bool false] := Own.alloc' w3 _ _
 have z4 : (w3.alloc (.cells #[Value.bool false] 4)).heap.size = w3.heap.size + 1 := by simp
 generalize w3.alloc (.cells #[Value.bool false] 4) = w4 at *
 have p3 := o3.mod k4 id
 have p2 := (o2.mod k3 id).mod k4 id
 have p1 := ((o1.mod k2 id).mod k3 id).mod k4 id
 have K4 : Keep w w4 := ((k1.tr k2).tr k3).tr k4
 have h4 := h.keep K4
 generalize hb1 : w.heap.size = b1 at *
 generalize hb2 : w1.heap.size = b2 at *
 generalize hb3 : w2.heap.size = b3 at *
 generalize hb4 : w3.heap.size = b4 at *
 have no : ∀ {w' : World}, Keep w w' → Own w' b4 tBool [.bool false] → witB n L a to c most settle = false → storeD Tryz.prog tBool ⟨b4, 0, none⟩ (.bool false) w' fun w'' => ld1 .bool w'' ⟨b4, 0, none⟩ fun b => Q b w'' := fun {w'} k o hf => by
  refine storeD1_i o size_Bool (by simp) rfl rfl fun w'' o'' m'' _ => ?_
  refine ld1_i (k := .bool) false (own_cell o'') ?_
  rw [← hf]
  exact hQ w'' (k.fresh m'' fun b e => by rw [show b = b4 from e]; omega)
 refine witness_has_i h4 fun r1 hr1 => ?_
 refine cond_i (fun hb => no K4 o4 ?_) (fun hb => ?_)
 ·unfold witB
  have : ¬ (0 ≤ a ∧ a < n) := fun h => by rw [hr1.2 h] at hb; cases hb
  simp only [this, decide_false, Bool.false_and]
 have ha := hr1.1 (by cases r1 <;> simp at hb ⊢)
 refine ld1_i (k := .int .i64) to (own_cell p1) ?_
 refine witness_has_i h4 fun r2 hr2 => ?_
 refine cond_i (fun hb => no K4 o4 ?_) (fun hb => ?_)
 ·unfold witB
  have : ¬ (0 ≤ to ∧ to < n) := fun h => by rw [hr2.2 h] at hb; cases hb
  simp only [this, decide_false, Bool.false_and, Bool.and_false]
 have ht := hr2.1 (by cases r2 <;> simp at hb ⊢)
 refine cond_i (fun he => no K4 o4 ?_) (fun hne => ?_)
 ·have : a = c := by simpa using he
  unfold witB
  simp [this]
 have hac : a ≠ c := by simpa using hne
 refine ld1_i (k := .int .i64) settle (own_cell p3) ?_
 have e0 : witB n L a to c most settle = fndB (settled n L c a) to most settle := by
  unfold witB
  rw [decide_eq_true ha, decide_eq_true ht, decide_eq_true hac]; rfl
 refine cond_d (fun hlt => no K4 o4 ?_) (fun hge => ?_)
 ·rw [e0]
  unfold fndB
  rw [show settle.toNat = 0 by omega]; rfl
 have hnl := h4.sz
 have hsl := settled_len h4.ok c ha.1 ha.2
 refine seek_i h4 ha.1 ha.2 (D := fun b => b = b3 ∨ b = b4)
  (C := fun k w' => k ≤ n ∧ Own w' b1 tInt [.int .i64 to] ∧ Own w' b2 tInt [.int .i64 most] ∧ Own w' b3 tInt [.int .i64 (settle - k)] ∧ Own w' b4 tBool [.bool (foundF (settled n L c a) to most k)])
  (stop := stopF (settled n L c a) to settle) (fun b hb => by omega) (fun b hb hd => by have := h.at_.lt hb; omega) ⟨Nat.zero_le _, p1, p2, by simpa using p3, o4⟩
  (fun k wa wb ⟨hk, q1, q2, q3, q4⟩ m => ⟨hk, q1.mod m (by omega), q2.mod m (by omega), q3.mod m (by omega), q4.mod m (by omega)⟩) ?_ ?_
 ·intro k x wa K ⟨hk, q1, q2, q3, q4⟩ hx hK
  have hkl := (List.getElem?_eq_some_iff.1 hx).1
  refine callV_i S_witness_Find_c1 (by kernel_rfl) (first := #[]) (decK_intro (ks := [.c (.int .i64), .c (.int .i64), .c .ptr, .c .ptr, .c .ptr, .c .ptr]) (t := (x.id, x.key, some ⟨b3, 0, none⟩, some ⟨b1, 0, none⟩, some ⟨b2, 0, none⟩, some ⟨b4, 0, none⟩, ())) ?_)
  show F_witness_Find_c1 x.id x.key (some ⟨b3, 0, none⟩) (some ⟨b1, 0, none⟩) (some ⟨b2, 0, none⟩) (some ⟨b4, 0, none⟩) wa fun r w' => K (.bool r) w'
  refine Find_c1_i q1 q2 q3 q4 (by omega) (by omega) (by omega) (by omega) (by omega) ⟨by omega, by omega⟩ fun wb r1 r2 r3 r4 m => ?_
  have e1 : (decide (x.id = to) || decide (settle - (k : Int) - 1 = 0)) = stopF (settled n L c a) to settle k := by
   unfold stopF; rw [hx]
   have : decide (settle - (k : Int) - 1 = 0) = decide (settle = (k : Int) + 1) := by
    apply decide_eq_decide.2; omega
   simp only [this]
  rw [e1]
  refine hK wb ⟨by omega, r1, r2, ?_, ?_⟩ m
  ·have : settle - (k : Int) - 1 = settle - ((k + 1 : Nat) : Int) := by omega
   rw [← this]; exact r3
  ·have : foundF (settled n L c a) to most (k + 1) = (decide (x.id = to) && decide (x.key ≤ most)) := by rw [foundF_succ, hx]
   rw [this]; exact r4
 ·intro m w11 ⟨hk, q1, q2, q3, q4⟩ m11 hml hst hend
  have hfound := found_end (most := most) (settled_One h4.ok c ha.1 ha.2) (settled_nodup h4.ok c ha.1 ha.2) (by omega) hml hst hend
  rw [hfound] at q4
  refine ld1_i (k := .bool) _ (own_cell q4) ?_
  refine storeD1_i q4 size_Bool (by simp) rfl rfl fun w12 o12 m12 _ => ?_
  refine ld1_i (k := .bool) _ (own_cell o12) ?_
  rw [← e0]
  exact hQ w12 ((K4.fresh m11 fun b hb => by omega).fresh m12 fun b e => by rw [show b = b4 from e]; omega)
end Go.Proofs.YtjjgcimlmjnaeaaGreat

namespace Go.Proofs.YtjjgcimlmjnaeaaGreat
open Go Go.Den
abbrev eSl (s : Sl) : List Value := [sv s]
theorem own_of_vec {w : World} {e : TypeId} {g n : Nat} {xs : List Sl} (h : Vec w e 1 eSl ⟨some ⟨g, 0, none⟩, n, n⟩ xs) : Own w g e (xs.map sv) := by
 rcases h.own with ⟨h0, _⟩ | ⟨g', rest, hb, ho, hl⟩
 ·cases h0
 ·have : g' = g := by cases hb; rfl
  subst this
  have hlen := h.len
  have hf : xs.flatMap eSl = xs.map sv := by
   clear ho hl hb h hlen
   induction xs with
   | nil => rfl
   | cons x r ih => simp [List.flatMap_cons, ih]
  have hr : rest = [] := by
   rw [List.length_append, hf, List.length_map] at hl
   apply List.eq_nil_of_length_eq_zero
   have : n = xs.length := hlen
   simp only at hl
   omega
  rw [hr, List.append_nil, hf] at ho
  exact ho
theorem init_i {w : World} {n go gi : Nat} (hn : n ≤ 512) (h1 : Own w go tsArc ((List.replicate n (⟨none, 0, 0⟩ : Sl)).map sv)) (h2 : Own w gi tsArc ((List.replicate n (⟨none, 0, 0⟩ : Sl)).map sv)) (hne : go ≠ gi) :
  NetIs (w.alloc (.cells #[sv ⟨some ⟨go, 0, none⟩, n, n⟩, sv ⟨some ⟨gi, 0, none⟩, n, n⟩] tNet)) ⟨w.heap.size, go, gi, List.replicate (n + n) ⟨none, 0, 0⟩⟩ n [] := by
 have k := Keep.alloc w (.cells #[sv ⟨some ⟨go, 0, none⟩, n, n⟩, sv ⟨some ⟨gi, 0, none⟩, n, n⟩] tNet)
 have l1 := h1.lt
 have l2 := h2.lt
 have nil : ∀ (i : Nat) (s : Sl), (List.replicate (n + n) (⟨none, 0, 0⟩ : Sl))[i]? = some s → s = ⟨none, 0, 0⟩ := fun i s hs => by
  rw [List.getElem?_replicate] at hs
  split at hs
  ·exact (Option.some.inj hs).symm
  ·cases hs
 refine ⟨⟨Own.alloc' w _ _, ?_, ?_, by simp, ?_, ?_, ?_, ?_⟩, OkL.nil n, hn⟩
 ·have : (List.replicate (n + n) (⟨none, 0, 0⟩ : Sl)).take n = List.replicate n ⟨none, 0, 0⟩ := by simp
  rw [this]; exact h1.mod k id
 ·have : (List.replicate (n + n) (⟨none, 0, 0⟩ : Sl)).drop n = List.replicate n ⟨none, 0, 0⟩ := by simp
  rw [this]; exact h2.mod k id
 ·intro i s hs
  rw [nil i s hs]
  have : rowsOf n [] i = [] := by simp [rowsOf, outL, inL]
  rw [this]; exact Vec.nil _ _ _ _
 ·intro i s a hs ha; rw [nil i s hs] at ha; cases ha
 ·intro i j s u a b hs _ ha _ _; rw [nil i s hs] at ha; cases ha
 ·exact ⟨fun e : w.heap.size = go => by omega, fun e : w.heap.size = gi => by omega, hne⟩
theorem New_i {n : Int} {s : Sl} {xs : List Arc} {w : World} {Q : Option Addr → Int → World → Prop} (hr : Rd w s 4 eArc xs) (hlen : xs.length < 1099511627776)
  (hbad : ∀ w', Keep w w' → ¬ (0 ≤ n ∧ n ≤ 512 ∧ ∀ a ∈ xs, mayA n.toNat a) → Q none 1 w')
  (hok : ∀ w' N, 0 ≤ n → n ≤ 512 → (∀ a ∈ xs, mayA n.toNat a) → NetIs w' N n.toNat (putAll n.toNat [] xs) → Keep w w' → (∀ k, N.has k → w.heap.size ≤ k) → Q (some ⟨N.g, 0, none⟩) 0 w') : F_net_New n s w Q := by
 unfold F_net_New
 have hl := hr.len
 refine cond_d (fun h => hbad w (Mod.refl _ _) (by omega)) (fun h0 => ?_)
 refine cond_d (fun h => hbad w (Mod.refl _ _) (by omega)) (fun h1 => ?_)
 obtain ⟨m, rfl⟩ : ∃ m : Nat, n = (m : Int) := ⟨n.toNat, by omega⟩
 have hm : m ≤ 512 := by omega
 simp only [Int.toNat_natCast] at hbad hok
 intro J hJ
 have main : ∀ w1 N, NetIs w1 N m [] → Keep w w1 → (∀ k, N.has k → w.heap.size ≤ k) → J (some ⟨N.g, 0, none⟩, ()) w1 := by
  intro w1 N hN hk hfr
  apply hJ
  refine loop_i (fun c t w2 => ∃ (i : Nat) (N2 : NetS), i ≤ xs.length ∧ c = xs.length - i ∧ t = ((i : Int), ()) ∧ NetIs w2 N2 m (putAll m [] (xs.take i)) ∧ N2.g = N.g ∧ Keep w w2 ∧ (∀ k, N2.has k → w.heap.size ≤ k) ∧ (∀ a ∈ xs.take i, mayA m a)) xs.length
   ⟨0, N, Nat.zero_le _, rfl, rfl, by simpa [putAll] using hN, rfl, hk, hfr, by simp⟩ ?_
  rintro c t w2 ⟨i, N2, hi, rfl, rfl, hN2, hg, hk2, hfr2, hmay⟩ X hX
  dsimp only
  refine cond_d (fun hlt => ?_) (fun hge => ?_)
  ·have hi' : i < xs.length := by omega
   refine ⟨⟨by omega, by omega⟩, ?_⟩
   obtain ⟨a, ha, hh⟩ := rd_tup (hr.mod hk2 eArc_ne (fun _ _ => id)) (List.getElem?_eq_getElem hi')
   refine onSome_i ha (ldN_i (tupA xs[i]) hh ?_)
   simp only [allocD]
   have k3 := Keep.alloc w2 (.cells #[Value.int .i64 0, Value.int .i64 0, Value.int .i64 0, Value.int .i64 0] 91)
   have o3 : Own (w2.alloc (.cells #[Value.int .i64 0, Value.int .i64 0, Value.int .i64 0, Value.int .i64 0] 91)) w2.heap.size 91 (eArc ⟨0, 0, 0, 0⟩) := Own.alloc' w2 _ 91
   generalize w2.alloc (.cells #[Value.int .i64 0, Value.int .i64 0, Value.int .i64 0, Value.int .i64 0] 91) = w3 at *
   refine zero_store o3 rfl fun w4 o4 m4 => ?_
   have k4 : Keep w2 w4 := Mod.fresh k3 m4 fun k hk => by omega
   have hN4 := hN2.keep k4
   refine ldN_i (tupA xs[i]) (own_all o4) ?_
   rw [← hg]
   refine may_i hN4.at_.head fun w5 r k5 hrm => ?_
   have hN5 := hN4.keep k5
   have o5 := o4.mod k5 id
   have k25 := k4.tr k5
   refine cond_i (fun hb => ?_) (fun hb => ?_)
   ·refine hbad w5 (hk2.tr k25) fun ⟨_, _, hall⟩ => ?_
    rw [hrm.2 (hall _ (List.getElem_mem hi'))] at hb; cases hb
   ·have hma : mayA m xs[i] := hrm.1 (by cases r <;> simp at hb ⊢)
    refine ldN_i (tupA xs[i]) (own_all o5) ?_
    refine Put_i hN5 fun w6 N6 hN6 hg6 m6 hf6 => ?_
    rw [w64 (by omega) (by omega)]
    refine hX (xs.length - (i + 1)) _ _ (by omega) ⟨i + 1, N6, hi', rfl, rfl, ?_, by rw [hg6, hg], Mod.fresh (hk2.tr k25) m6 hfr2, fun k hk => ?_, ?_⟩
    ·rw [List.take_succ_eq_append_getElem hi', putAll_snoc]; exact hN6
    ·rcases hf6 k hk with h | h
     ·exact hfr2 k h
     ·have := hk2.size; have := k25.size; omega
    ·rw [List.take_succ_eq_append_getElem hi']
     intro x hx
     rcases List.mem_append.1 hx with hx | hx
     ·exact hmay x hx
     ·simp at hx; subst hx; exact hma
  ·have hi' : i = xs.length := by omega
   subst hi'
   rw [List.take_length] at hN2 hmay
   rw [← hg]
   exact hok w2 N2 (by omega) (by omega) hmay hN2 hk2 hfr2
 have kd : Keep w w.drew := Mod.drew (Mod.refl _ w)
 have both : ∀ {K : World → Sl → Sl → Prop}, (∀ w8 g1 g2, Own w8 g1 tsArc ((List.replicate m (⟨none, 0, 0⟩ : Sl)).map sv) → Own w8 g2 tsArc ((List.replicate m (⟨none, 0, 0⟩ : Sl)).map sv) → g1 ≠ g2 → Keep w w8 → w.heap.size ≤ g1 → w.heap.size ≤ g2 → K w8 ⟨some ⟨g1, 0, none⟩, m, m⟩ ⟨some ⟨g2, 0, none⟩, m, m⟩) →
   makeSliceD Tryz.prog tssArc (.int .i64 (m : Int)) (.int .i64 (m : Int)) w.drew fun s1 w7 => makeSliceD Tryz.prog tssArc (.int .i64 (m : Int)) (.int .i64 (m : Int)) w7 fun s2 w8 => K w8 s1 s2 := by
  intro K hK
  refine make_i elem_ssArc (enc := eSl) ⟨none, 0, 0⟩ rfl (fun _ => rfl) (by omega) (Int.le_refl _) (by omega) (by omega) fun w7 hv7 k7 => ?_
  refine make_i elem_ssArc (enc := eSl) ⟨none, 0, 0⟩ rfl (fun _ => rfl) (by omega) (Int.le_refl _) (by omega) (by omega) fun w8 hv8 k8 => ?_
  have hv7' := hv7.mod k8 (fun _ _ => id)
  have hlt : w.drew.heap.size < w7.heap.size := hv7.lt rfl
  exact hK w8 _ _ (own_of_vec hv7') (own_of_vec hv8) (by omega) ((kd.tr k7).tr k8) (Nat.le_refl _) (Nat.le_trans kd.size k7.size)
 have fr : ∀ (w8 : World) (g1 g2 : Nat), w.heap.size ≤ g1 → w.heap.size ≤ g2 → Keep w w8 → ∀ k, (⟨w8.heap.size, g1, g2, List.replicate (m + m) ⟨none, 0, 0⟩⟩ : NetS).has k → w.heap.size ≤ k := by
  intro w8 g1 g2 h1 h2 hk k hh
  rcases hh with h | h | h | ⟨i, s, a, hs, ha, _⟩
  ·rw [h]; exact hk.size
  ·rw [h]; exact h1
  ·rw [h]; exact h2
  ·rw [List.getElem?_replicate] at hs
   split at hs
   ·cases hs; cases ha
   ·cases hs
 refine ⟨both fun w8 g1 g2 h1 h2 hne hk hg1 hg2 => ?_, both fun w8 g1 g2 h1 h2 hne hk hg1 hg2 => ?_⟩
 ·exact main _ ⟨w8.heap.size, g1, g2, List.replicate (m + m) ⟨none, 0, 0⟩⟩ (init_i hm h1 h2 hne) (Mod.alloc hk _) (fr w8 g1 g2 hg1 hg2 hk)
 ·exact main _ ⟨w8.heap.size, g2, g1, List.replicate (m + m) ⟨none, 0, 0⟩⟩ (init_i hm h2 h1 (Ne.symm hne)) (Mod.alloc hk _) (fr w8 g2 g1 hg2 hg1 hk)
theorem Copy_i {N : NetS} {n : Nat} {l : List Arc} {w : World} {Q : Option Addr → World → Prop} (h : NetIs w N n l) (hl : l.length < 1099511627776)
  (hQ : ∀ w' N', NetIs w' N' n l → Keep w w' → (∀ k, N'.has k → w.heap.size ≤ k) → Q (some ⟨N'.g, 0, none⟩) w') : F_nN_Copy (some ⟨N.g, 0, none⟩) w Q := by
 unfold F_nN_Copy
 have hsz := h.sz
 refine cond_i (fun h => by simp at h) (fun _ => ?_)
 refine Len_i h (All_i h hl fun s w' hv hk hb => ?_)
 refine New_i (hv.rd lenA) hl (fun w2 k2 hno => ?_) (fun w2 N2 _ _ _ hN2 k2 hfr => ?_)
 ·exact absurd ⟨by omega, by omega, fun a ha => by simpa using h.ok.may a ha⟩ hno
 ·simp only [Int.toNat_natCast] at hN2
  have e : putAll n [] l = l := putAll_self (p := []) h.ok
  rw [e] at hN2
  exact hQ w2 N2 hN2 (hk.tr k2) fun k hk' => Nat.le_trans hk.size (hfr k hk')
end Go.Proofs.YtjjgcimlmjnaeaaGreat

namespace Go.Proofs.YtjjgcimlmjnaeaaGreat
open Go Go.Den
section
variable {N : NetS} {n : Nat} {X : Nat → List Arc} {v : Int} {w : World}
theorem has_at {Q : Bool → World → Prop} (h : NetAt w N n X) (hn : n ≤ 512) (hQ : ∀ r : Bool, (r = true ↔ 0 ≤ v ∧ v < n) → Q r w) : F_nN_has (some ⟨N.g, 0, none⟩) v w Q := by
 unfold F_nN_has
 refine cond_d (fun h1 => ?_) (fun h1 => hQ _ (by simp; omega))
 unfold F_nN_Len
 refine cond_i (fun h => by simp at h) (fun _ => ?_)
 exact onSome_i rfl (ld1_i (k := .slice) ⟨some ⟨N.go, 0, none⟩, n, n⟩ h.c0 (hQ _ (by simp; omega)))
theorem In_at {Q : Sl → World → Prop} (h : NetAt w N n X) (hn : n ≤ 512) (hX : ∀ j, (X j).length ≤ 512) (hQ : ∀ s' w', Vec w' tArc 4 eArc s' (if 0 ≤ v ∧ v < n then X (n + v.toNat) else []) → Keep w w' → (∀ b, s'.b = some b → w.heap.size ≤ b.block) → Q s' w') :
  F_nN_In (some ⟨N.g, 0, none⟩) v w Q := by
 unfold F_nN_In
 refine has_at h hn fun r hr => cond_i (fun h1 => ?_) (fun h1 => ?_)
 ·have : ¬ (0 ≤ v ∧ v < n) := fun hv => by rw [hr.2 hv] at h1; cases h1
  rw [if_neg this] at hQ
  exact hQ _ w (Vec.nil _ _ _ _) (Mod.refl _ _) (fun b hb => by cases hb)
 ·have hv := hr.1 (by cases r <;> simp at h1 ⊢)
  rw [if_pos hv] at hQ
  obtain ⟨u, rfl⟩ : ∃ u : Nat, v = (u : Int) := ⟨v.toNat, by omega⟩
  refine onSome_i rfl (ld1_i (k := .slice) ⟨some ⟨N.gi, 0, none⟩, n, n⟩ h.c1 ?_)
  refine ⟨⟨by omega, by show _ < ((n : Nat) : Int); omega⟩, onSome_i rfl ?_⟩
  obtain ⟨s, hs, hcell⟩ := h.inn (show u < n by omega)
  refine ld1_i (k := .slice) s hcell ?_
  have := hX (n + u)
  exact Clone_i ((h.row (n + u) s hs).rd lenA) (by omega) fun s' w' h1 h2 h3 => hQ s' w' h1 h2 h3
end
theorem mem_filter_not {l R : List Arc} {x : Arc} : x ∈ l.filter (fun y => decide (y ∉ R)) ↔ x ∈ l ∧ x ∉ R := by simp
def cutX (n : Nat) (l RO RI : List Arc) (j : Nat) : List Arc := if j < n then (outL l (j : Int)).filter (fun y => decide (y ∉ RI)) else (inL l ((j : Int) - n)).filter (fun y => decide (y ∉ RO))
theorem cutX_len {n : Nat} {l RO RI : List Arc} (h : OkL n l) (hn : n ≤ 512) (j : Nat) : (cutX n l RO RI j).length ≤ 512 := by
 unfold cutX
 split
 ·have := List.length_filter_le (fun y => decide (y ∉ RI)) (outL l (j : Int)); have := h.out_len (j : Int); omega
 ·have := List.length_filter_le (fun y => decide (y ∉ RO)) (inL l ((j : Int) - n)); have := h.in_len ((j : Int) - n); omega
theorem arc_eq {l : List Arc} (h : LSrt l) {x y : Arc} (hx : x ∈ l) (hy : y ∈ l) (hf : x.f = y.f) (ht : x.t = y.t) : x = y := by
 have h1 := findL_eq h hx
 have h2 := findL_eq h hy
 rw [hf, ht, h2] at h1
 exact (Option.some.inj h1).symm
theorem filter_step {key : Arc → Int} {row R : List Arc} {a : Arc} (hs : Srt key row) (h1 : ∀ x ∈ row, x ∉ R → key x = key a → x = a) :
  (row.filter fun y => decide (y ∉ R)).filter (fun y => decide (key y ≠ key a)) = row.filter fun y => decide (y ∉ R ++ [a]) := by
 refine ((hs.filter _).filter _).ext (hs.filter _) fun x => ?_
 simp only [List.mem_filter, decide_eq_true_eq, List.mem_append, List.mem_singleton, not_or]
 constructor
 ·rintro ⟨⟨hx, hn⟩, hk⟩
  exact ⟨hx, hn, fun e => hk (by rw [e])⟩
 ·rintro ⟨hx, hn, hne⟩
  exact ⟨⟨hx, hn⟩, fun hk => hne (h1 x hx hn hk)⟩
theorem Cut_i {N : NetS} {n : Nat} {l : List Arc} {v : Int} {w : World} {Q : World → Prop} (h : NetIs w N n l)
  (hQ : ∀ w' N', NetIs w' N' n (cutL l v) → N'.g = N.g → Mod N.has w w' → (∀ k, N'.has k → N.has k ∨ w.heap.size ≤ k) → Q w') : F_nN_Cut (some ⟨N.g, 0, none⟩) v w Q := by
 unfold F_nN_Cut
 have hsz := h.sz
 have hok := h.ok
 refine Out_i h fun s1 w1 hv1 k1 hb1 => ?_
 have h1 := h.keep k1
 have r1 := hv1.rd lenA
 have hX0 : rowsOf n l = cutX n l [] [] := by
  funext j
  unfold rowsOf cutX
  split <;> exact (List.filter_eq_self.2 (by simp)).symm
 have at1 : NetAt w1 N n (cutX n l [] []) := by rw [← hX0]; exact h1.at_
 refine loop_i (fun m t w2 => ∃ (i : Nat) (N2 : NetS), i ≤ (outL l v).length ∧ m = (outL l v).length - i ∧ t = ((i : Int), ()) ∧ NetAt w2 N2 n (cutX n l ((outL l v).take i) []) ∧ N2.g = N.g ∧ Rd w2 s1 4 eArc (outL l v) ∧ Mod N.has w w2 ∧ (∀ k, N2.has k → N.has k ∨ w1.heap.size ≤ k) ∧ w1.heap.size ≤ w2.heap.size) (outL l v).length
  ⟨0, N, Nat.zero_le _, rfl, rfl, by simpa using at1, rfl, r1, k1.wk, fun k hk => .inl hk, Nat.le_refl _⟩ ?_
 rintro m t w2 ⟨i, N2, hi, rfl, rfl, at2, hg2, r2, m2, hf2, z2⟩ X hX
 dsimp only
 have hl1 := hv1.len
 have hlenO := hok.out_len v
 have hrb : ∀ b, s1.b = some b → outL l v ≠ [] → w.heap.size ≤ b.block ∧ b.block < w1.heap.size := fun b hb _ => ⟨hb1 b hb, hv1.lt hb⟩
 refine cond_d (fun hlt => ?_) (fun hge => ?_)
 ·have hi' : i < (outL l v).length := by omega
  refine ⟨⟨by omega, by omega⟩, ?_⟩
  obtain ⟨a0, ha0, hh⟩ := rd_tup r2 (List.getElem?_eq_getElem hi')
  generalize hxa : (outL l v)[i] = a at hh
  have hga : (outL l v)[i]? = some a := by rw [← hxa]; exact List.getElem?_eq_getElem hi'
  have hmem : a ∈ outL l v := List.mem_of_getElem? hga
  obtain ⟨hal, haf⟩ := mem_outL.1 hmem
  have hma := hok.may a hal
  refine onSome_i ha0 (ldN_i (tupA a) hh ?_)
  simp only [allocD]
  have k3 := Keep.alloc w2 (.cells #[Value.int .i64 0, Value.int .i64 0, Value.int .i64 0, Value.int .i64 0] 91)
  have o3 : Own (w2.alloc (.cells #[Value.int .i64 0, Value.int .i64 0, Value.int .i64 0, Value.int .i64 0] 91)) w2.heap.size 91 (eArc ⟨0, 0, 0, 0⟩) := Own.alloc' w2 _ 91
  generalize w2.alloc (.cells #[Value.int .i64 0, Value.int .i64 0, Value.int .i64 0, Value.int .i64 0] 91) = w3 at *
  refine zero_store o3 rfl fun w4 o4 m4 => ?_
  have k4 : Keep w2 w4 := Mod.fresh k3 m4 fun k hk => by omega
  generalize hb2 : w2.heap.size = b2 at *
  have hb2N : ¬ N2.has b2 := fun hk => by have := at2.lt hk; omega
  obtain ⟨u, hu⟩ : ∃ u : Nat, a.t = (u : Int) := ⟨a.t.toNat, by have := hma.2.2.1; omega⟩
  have hun : u < n := by have := hma.2.2.2.1; omega
  have d4 : Keep w4 w4.drew := Mod.drew (Mod.refl _ w4)
  have la : ∀ {w' : World}, Own w' b2 91 (eArc a) → w'.cell? ((⟨b2, 0, none⟩ : Addr).add 1) = some (.int .i64 (u : Int)) := fun ho => by
   rw [addr_lit, ho.cell, ← hu]; rfl
  have at4 := (at2.keep k4).keep d4
  have o4' := o4.mod d4 id
  rw [← hg2]
  refine onSome_i rfl (ld1_i (k := .slice) ⟨some ⟨N2.gi, 0, none⟩, n, n⟩ at4.c1 (ld1_i (k := .int .i64) (u : Int) (la o4') ?_))
  refine ⟨⟨by omega, by show _ < ((n : Nat) : Int); omega⟩, onSome_i rfl ?_⟩
  obtain ⟨s3, hs3, hc3⟩ := at4.inn hun
  refine ld1_i (k := .slice) s3 hc3 ?_
  have hrow := at4.row (n + u) s3 hs3
  have hXe : ∀ R, cutX n l R [] (n + u) = (inL l a.t).filter (fun y => decide (y ∉ R)) := fun R => by
   have : ¬ (n + u < n) := by omega
   simp only [cutX, this, if_false, hu]
   congr 2; omega
  rw [hXe] at hrow
  have hsrt : Srt Arc.f ((inL l a.t).filter (fun y => decide (y ∉ (outL l v).take i))) := (hok.srt.inn a.t).filter _
  have hlen := List.length_filter_le (fun y => decide (y ∉ (outL l v).take i)) (inL l a.t)
  have hlen2 := hok.in_len a.t
  have hnot : a ∉ (outL l v).take i := by
   intro hin
   obtain ⟨p, hp⟩ := List.mem_iff_getElem?.1 hin
   have hpi : p < i := by have := (List.getElem?_eq_some_iff.1 hp).1; simp at this; omega
   rw [List.getElem?_take_of_lt hpi] at hp
   have := (hok.srt.out v).get hpi hp hga
   omega
  have hin : a ∈ (inL l a.t).filter (fun y => decide (y ∉ (outL l v).take i)) := by
   rw [mem_filter_not]; exact ⟨mem_inL.2 ⟨hal, rfl⟩, hnot⟩
  refine byFrom_i (hrow.rd lenA) hsrt (by omega) fun j fnd w5 k5 low _ => ?_
  have d5 : Keep w5 w5.drew := Mod.drew (Mod.refl _ w5)
  have k45 := (d4.tr k5).tr d5
  have at5 := (at2.keep k4).keep k45
  have o5 := o4.mod k45 id
  refine onSome_i rfl (ld1_i (k := .slice) ⟨some ⟨N2.gi, 0, none⟩, n, n⟩ at5.c1 (ld1_i (k := .int .i64) (u : Int) (la o5) ?_))
  refine onSome_i rfl (ld1_i (k := .slice) ⟨some ⟨N2.gi, 0, none⟩, n, n⟩ at5.c1 (ld1_i (k := .int .i64) (u : Int) (la o5) ?_))
  refine ⟨⟨by omega, by show _ < ((n : Nat) : Int); omega⟩, onSome_i rfl ?_⟩
  obtain ⟨s6, hs6, hc6⟩ := at5.inn hun
  rw [hs3] at hs6; cases hs6
  refine ld1_i (k := .slice) s3 hc6 ?_
  have hrow5 := at5.row (n + u) s3 hs3
  rw [hXe] at hrow5
  have hj : j < ((inL l a.t).filter (fun y => decide (y ∉ (outL l v).take i))).length := (List.getElem?_eq_some_iff.1 (low.found hsrt hin haf)).1
  rw [w64 (n := (j : Int) + 1) (by omega) (by omega)]
  refine Delete_i hrow5 hj (by omega) fun s7 w6 hv7 m6 hb7 => ?_
  have hne : ∀ k, (∃ b, s3.b = some b ∧ k = b.block) → N2.has k := fun k ⟨b, hb, hk⟩ => .inr (.inr (.inr ⟨n + u, s3, b, hs3, hb, hk.symm⟩))
  have o6 := o5.mod m6 fun hk => hb2N (hne _ hk)
  refine ⟨la o6, ?_, ⟨by omega, by show _ < ((n : Nat) : Int); omega⟩, onSome_i rfl ?_⟩
  ·have := at5.head.mod m6 fun ⟨b, hb, hk⟩ => (at5.sep (n + u) s3 b hs3 hb).1 hk.symm
   rw [addr_lit, this.cell]; rfl
  refine at5.putIn hun hs3 hv7 m6 (.inl hb7) fun w7 at7 m7 z7 => ?_
  rw [w64 (n := (i : Int) + 1) (by omega) (by omega)]
  have hfun : (fun j' => if j' = n + u then ((inL l a.t).filter (fun y => decide (y ∉ (outL l v).take i))).take j ++ ((inL l a.t).filter (fun y => decide (y ∉ (outL l v).take i))).drop (j + 1) else cutX n l ((outL l v).take i) [] j') = cutX n l ((outL l v).take (i + 1)) [] := by
   funext j'
   rw [List.take_add_one, hga, Option.toList_some]
   split
   ·rename_i he
    subst he
    rw [hXe, low.del hsrt hin haf, ← haf]
    refine filter_step (hok.srt.inn a.t) fun x hx _ hk => ?_
    obtain ⟨hx1, hx2⟩ := mem_inL.1 hx
    exact arc_eq hok.srt hx1 hal hk hx2
   ·rename_i he
    unfold cutX
    split
    ·rfl
    ·refine List.filter_congr fun x hx => ?_
     have : x ≠ a := by
      rintro rfl
      have := (mem_inL.1 hx).2
      omega
     simp [this]
  rw [hfun] at at7
  have m27 : Mod N2.has w2 w7 := (k4.wk.tr k45.wk).tr m7
  refine hX ((outL l v).length - (i + 1)) _ _ (by omega) ⟨i + 1, _, hi', rfl, rfl, at7, hg2, ?_, m2.trans m27 (fun k hk hk2 => ?_), fun k hk => ?_, by have := m27.size; omega⟩
  ·refine r2.mod m27 eArc_ne fun b hb hk => ?_
   have hb' := hrb b hb (by intro e; rw [e] at hi'; simp at hi')
   rcases hf2 _ hk with h' | h'
   ·have := h.at_.lt h'; omega
   ·omega
  ·rcases hf2 k hk2 with h' | h'
   ·exact h'
   ·have := k1.size; omega
  ·rcases NetS.has_set (N := N2) (P := fun _ => False) hs3 (fun a _ => .inl hb7) hk with h' | h'
   ·exact hf2 k h'
   ·exact h'.elim
 ·have hi' : i = (outL l v).length := by omega
  subst hi'
  rw [List.take_length] at at2
  generalize hO : outL l v = O at *
  have hmemO : ∀ x, x ∈ O ↔ x ∈ l ∧ x.f = v := fun x => by rw [← hO]; exact mem_outL
  rw [← hg2]
  refine In_at at2 hsz (cutX_len hok hsz) fun s8 w8 hv8 k8 hfr8 => ?_
  have hI : (if 0 ≤ v ∧ v < n then cutX n l O [] (n + v.toNat) else []) = inL l v := by
   split
   ·rename_i hv
    have : ¬ (n + v.toNat < n) := by omega
    simp only [cutX, this, if_false]
    rw [show ((n + v.toNat : Nat) : Int) - (n : Int) = v by omega]
    refine List.filter_eq_self.2 fun x hx => ?_
    obtain ⟨hx1, hx2⟩ := mem_inL.1 hx
    have hmx := (hok.may x hx1).2.2.2.2.1
    simp only [decide_eq_true_eq, hmemO]
    rintro ⟨_, hf⟩
    omega
   ·rename_i hv
    symm
    refine List.filter_eq_nil_iff.2 fun x hx hxv => ?_
    have e : x.t = v := by simpa using hxv
    have := hok.may x hx
    exact hv ⟨by rw [← e]; exact this.2.2.1, by rw [← e]; exact this.2.2.2.1⟩
  rw [hI] at hv8
  have at8 := at2.keep k8
  have r8 := hv8.rd lenA
  have m8 : Mod N.has w w8 := m2.trans k8 fun _ _ h => h.elim
  have z8 : w1.heap.size ≤ w8.heap.size := Nat.le_trans z2 k8.size
  have hl8 := hv8.len
  have hlenI := hok.in_len v
  refine loop_i (fun m t w9 => ∃ (i : Nat) (N3 : NetS), i ≤ (inL l v).length ∧ m = (inL l v).length - i ∧ t = ((i : Int), ()) ∧ NetAt w9 N3 n (cutX n l O ((inL l v).take i)) ∧ N3.g = N.g ∧ Rd w9 s8 4 eArc (inL l v) ∧ Mod N.has w w9 ∧ (∀ k, N3.has k → N.has k ∨ w1.heap.size ≤ k) ∧ w8.heap.size ≤ w9.heap.size ∧ (∀ k, N3.has k → N2.has k)) (inL l v).length
   ⟨0, N2, Nat.zero_le _, rfl, rfl, by simpa using at8, hg2, r8, m8, hf2, Nat.le_refl _, fun k hk => hk⟩ ?_
  rintro m t w9 ⟨i, N3, hi, rfl, rfl, at9, hg3, r9, m9, hf3, z9, hn3⟩ Y hY
  dsimp only
  refine cond_d (fun hlt => ?_) (fun hge => ?_)
  ·have hi' : i < (inL l v).length := by omega
   refine ⟨⟨by omega, by omega⟩, ?_⟩
   obtain ⟨a0, ha0, hh⟩ := rd_tup r9 (List.getElem?_eq_getElem hi')
   generalize hxa : (inL l v)[i] = a at hh
   have hga : (inL l v)[i]? = some a := by rw [← hxa]; exact List.getElem?_eq_getElem hi'
   have hmem : a ∈ inL l v := List.mem_of_getElem? hga
   obtain ⟨hal, hat⟩ := mem_inL.1 hmem
   have hma := hok.may a hal
   refine onSome_i ha0 (ldN_i (tupA a) hh ?_)
   simp only [allocD]
   have k3 := Keep.alloc w9 (.cells #[Value.int .i64 0, Value.int .i64 0, Value.int .i64 0, Value.int .i64 0] 91)
   have o3 : Own (w9.alloc (.cells #[Value.int .i64 0, Value.int .i64 0, Value.int .i64 0, Value.int .i64 0] 91)) w9.heap.size 91 (eArc ⟨0, 0, 0, 0⟩) := Own.alloc' w9 _ 91
   generalize w9.alloc (.cells #[Value.int .i64 0, Value.int .i64 0, Value.int .i64 0, Value.int .i64 0] 91) = w3 at *
   refine zero_store o3 rfl fun w4 o4 m4 => ?_
   have k4 : Keep w9 w4 := Mod.fresh k3 m4 fun k hk => by omega
   generalize hb2 : w9.heap.size = b2 at *
   have hb2N : ¬ N3.has b2 := fun hk => by have := at9.lt hk; omega
   obtain ⟨u, hu⟩ : ∃ u : Nat, a.f = (u : Int) := ⟨a.f.toNat, by have := hma.1; omega⟩
   have hun : u < n := by have := hma.2.1; omega
   have d4 : Keep w4 w4.drew := Mod.drew (Mod.refl _ w4)
   have la : ∀ {w' : World}, Own w' b2 91 (eArc a) → w'.cell? ((⟨b2, 0, none⟩ : Addr).add 0) = some (.int .i64 (u : Int)) := fun ho => by
    rw [addr_lit, ho.cell, ← hu]; rfl
   have at4 := (at9.keep k4).keep d4
   have o4' := o4.mod d4 id
   rw [hg2, ← hg3]
   refine onSome_i rfl (ld1_i (k := .slice) ⟨some ⟨N3.go, 0, none⟩, n, n⟩ at4.c0 (ld1_i (k := .int .i64) (u : Int) (la o4') ?_))
   refine ⟨⟨by omega, by show _ < ((n : Nat) : Int); omega⟩, onSome_i rfl ?_⟩
   obtain ⟨s3, hs3, hc3⟩ := at4.out hun
   refine ld1_i (k := .slice) s3 hc3 ?_
   have hrow := at4.row u s3 hs3
   have hXe : ∀ R, cutX n l O R u = (outL l a.f).filter (fun y => decide (y ∉ R)) := fun R => by
    simp only [cutX, hun, if_true, hu]
   rw [hXe] at hrow
   have hsrt : Srt Arc.t ((outL l a.f).filter (fun y => decide (y ∉ (inL l v).take i))) := (hok.srt.out a.f).filter _
   have hlen := List.length_filter_le (fun y => decide (y ∉ (inL l v).take i)) (outL l a.f)
   have hlen2 := hok.out_len a.f
   have hnot : a ∉ (inL l v).take i := by
    intro hin
    obtain ⟨p, hp⟩ := List.mem_iff_getElem?.1 hin
    have hpi : p < i := by have := (List.getElem?_eq_some_iff.1 hp).1; simp at this; omega
    rw [List.getElem?_take_of_lt hpi] at hp
    have := (hok.srt.inn v).get hpi hp hga
    omega
   have hin : a ∈ (outL l a.f).filter (fun y => decide (y ∉ (inL l v).take i)) := by
    rw [mem_filter_not]; exact ⟨mem_outL.2 ⟨hal, rfl⟩, hnot⟩
   refine byTo_i (hrow.rd lenA) hsrt (by omega) fun j fnd w5 k5 low _ => ?_
   have d5 : Keep w5 w5.drew := Mod.drew (Mod.refl _ w5)
   have k45 := (d4.tr k5).tr d5
   have at5 := (at9.keep k4).keep k45
   have o5 := o4.mod k45 id
   refine onSome_i rfl (ld1_i (k := .slice) ⟨some ⟨N3.go, 0, none⟩, n, n⟩ at5.c0 (ld1_i (k := .int .i64) (u : Int) (la o5) ?_))
   refine onSome_i rfl (ld1_i (k := .slice) ⟨some ⟨N3.go, 0, none⟩, n, n⟩ at5.c0 (ld1_i (k := .int .i64) (u : Int) (la o5) ?_))
   refine ⟨⟨by omega, by show _ < ((n : Nat) : Int); omega⟩, onSome_i rfl ?_⟩
   obtain ⟨s6, hs6, hc6⟩ := at5.out hun
   rw [hs3] at hs6; cases hs6
   refine ld1_i (k := .slice) s3 hc6 ?_
   have hrow5 := at5.row u s3 hs3
   rw [hXe] at hrow5
   have hj : j < ((outL l a.f).filter (fun y => decide (y ∉ (inL l v).take i))).length := (List.getElem?_eq_some_iff.1 (low.found hsrt hin hat)).1
   rw [w64 (n := (j : Int) + 1) (by omega) (by omega)]
   refine Delete_i hrow5 hj (by omega) fun s7 w6 hv7 m6 hb7 => ?_
   have hne : ∀ k, (∃ b, s3.b = some b ∧ k = b.block) → N3.has k := fun k ⟨b, hb, hk⟩ => .inr (.inr (.inr ⟨u, s3, b, hs3, hb, hk.symm⟩))
   have o6 := o5.mod m6 fun hk => hb2N (hne _ hk)
   refine ⟨la o6, ?_, ⟨by omega, by show _ < ((n : Nat) : Int); omega⟩, onSome_i rfl ?_⟩
   ·have := at5.head.mod m6 fun ⟨b, hb, hk⟩ => (at5.sep u s3 b hs3 hb).1 hk.symm
    rw [addr_lit, this.cell]; rfl
   refine at5.putOut hun hs3 hv7 m6 (.inl hb7) fun w7 at7 m7 z7 => ?_
   rw [w64 (n := (i : Int) + 1) (by omega) (by omega)]
   have hfun : (fun j' => if j' = u then ((outL l a.f).filter (fun y => decide (y ∉ (inL l v).take i))).take j ++ ((outL l a.f).filter (fun y => decide (y ∉ (inL l v).take i))).drop (j + 1) else cutX n l O ((inL l v).take i) j') = cutX n l O ((inL l v).take (i + 1)) := by
    funext j'
    rw [List.take_add_one, hga, Option.toList_some]
    split
    ·rename_i he
     subst he
     rw [hXe, low.del hsrt hin hat, ← hat]
     refine filter_step (hok.srt.out a.f) fun x hx _ hk => ?_
     obtain ⟨hx1, hx2⟩ := mem_outL.1 hx
     exact arc_eq hok.srt hx1 hal hx2 hk
    ·rename_i he
     unfold cutX
     split
     ·refine List.filter_congr fun x hx => ?_
      have : x ≠ a := by
       rintro rfl
       have := (mem_outL.1 hx).2
       omega
      simp [this]
     ·rfl
   rw [hfun] at at7
   have m97 : Mod N3.has w9 w7 := (k4.wk.tr k45.wk).tr m7
   have hset : ∀ k, ({ N3 with rows := N3.rows.set u s7 } : NetS).has k → N3.has k := fun k hk => by
    rcases NetS.has_set (N := N3) (P := fun _ => False) hs3 (fun a _ => .inl hb7) hk with h' | h'
    ·exact h'
    ·exact h'.elim
   refine hY ((inL l v).length - (i + 1)) _ _ (by omega) ⟨i + 1, _, hi', rfl, rfl, at7, hg3, ?_, m9.trans m97 (fun k hk hk2 => ?_), fun k hk => hf3 k (hset k hk), by have := m97.size; omega, fun k hk => hn3 k (hset k hk)⟩
   ·refine r9.mod m97 eArc_ne fun b hb hk => ?_
    have hb8 := hfr8 b hb
    have := at2.lt (hn3 _ hk)
    omega
   ·rcases hf3 k hk2 with h' | h'
    ·exact h'
    ·have := k1.size; omega
  ·have hi' : i = (inL l v).length := by omega
   subst hi'
   rw [List.take_length] at at9
   have hrows : ∀ j, j ≠ n + v.toNat ∨ ¬ (0 ≤ v ∧ v < n) → j ≠ v.toNat ∨ ¬ (0 ≤ v ∧ v < n) → cutX n l O (inL l v) j = rowsOf n (cutL l v) j := by
    intro j hj1 hj2
    unfold cutX rowsOf cutL
    split
    ·rename_i hjn
     unfold outL
     rw [List.filter_filter, List.filter_filter]
     refine List.filter_congr fun x hx => ?_
     obtain ⟨a1, a2, a3, a4, _⟩ := hok.may x hx
     apply Bool.eq_iff_iff.2
     simp only [Bool.and_eq_true, decide_eq_true_eq, mem_inL, hx, true_and]
     omega
    ·rename_i hjn
     unfold inL
     rw [List.filter_filter, List.filter_filter]
     refine List.filter_congr fun x hx => ?_
     obtain ⟨a1, a2, a3, a4, _⟩ := hok.may x hx
     apply Bool.eq_iff_iff.2
     simp only [Bool.and_eq_true, decide_eq_true_eq, hmemO, hx, true_and]
     omega
   rw [hg2, ← hg3]
   refine has_at at9 hsz fun r hr => cond_i (fun hb => ?_) (fun hb => ?_)
   ·have hv := hr.1 hb
    obtain ⟨u, rfl⟩ : ∃ u : Nat, v = (u : Int) := ⟨v.toNat, by omega⟩
    have hun : u < n := by omega
    simp only [Int.toNat_natCast] at hrows
    refine onSome_i rfl (ld1_i (k := .slice) ⟨some ⟨N3.go, 0, none⟩, n, n⟩ at9.c0 (onSome_i rfl (ld1_i (k := .slice) ⟨some ⟨N3.gi, 0, none⟩, n, n⟩ at9.c1 ?_)))
    refine ⟨⟨by omega, by show _ < ((n : Nat) : Int); omega⟩, onSome_i rfl ?_⟩
    have d9 : Keep w9 w9.drew := Mod.drew (Mod.refl _ w9)
    have at9' := at9.keep d9
    obtain ⟨sa, hsa, _⟩ := at9'.out hun
    refine at9'.putOut (s' := ⟨none, 0, 0⟩) hun hsa (Vec.nil _ _ _ _) (Mod.refl _ _) (.inr fun a ha => by cases ha) fun w10 at10 m10 _ => ?_
    refine ⟨⟨by omega, by show _ < ((n : Nat) : Int); omega⟩, onSome_i rfl ?_⟩
    obtain ⟨sb, hsb, _⟩ := at10.inn hun
    refine at10.putIn (s' := ⟨none, 0, 0⟩) hun hsb (Vec.nil _ _ _ _) (Mod.refl _ _) (.inr fun a ha => by cases ha) fun w11 at11 m11 _ => ?_
    have hs1 : ∀ k, ({ N3 with rows := N3.rows.set u ⟨none, 0, 0⟩ } : NetS).has k → N3.has k := fun k hk => by
     rcases NetS.has_set (N := N3) (P := fun _ => False) hsa (fun a ha => by cases ha) hk with h' | h'
     ·exact h'
     ·exact h'.elim
    have hs2 : ∀ k, ({ N3 with rows := (N3.rows.set u ⟨none, 0, 0⟩).set (n + u) ⟨none, 0, 0⟩ } : NetS).has k → N3.has k := fun k hk => by
     rcases NetS.has_set (N := { N3 with rows := N3.rows.set u ⟨none, 0, 0⟩ }) (P := fun _ => False) hsb (fun a ha => by cases ha) hk with h' | h'
     ·exact hs1 k h'
     ·exact h'.elim
    have m911 : Mod N3.has w9 w11 := (d9.wk.tr m10).trans m11 fun k _ hk => hs1 k hk
    refine hQ w11 { N3 with rows := (N3.rows.set u ⟨none, 0, 0⟩).set (n + u) ⟨none, 0, 0⟩ } ⟨?_, hok.cut _, hsz⟩ hg3 (m9.trans m911 fun k hk hk2 => ?_) fun k hk => ?_
    ·have hfun : (fun j => if j = n + u then [] else (fun j => if j = u then [] else cutX n l O (inL l (u : Int)) j) j) = rowsOf n (cutL l (u : Int)) := by
      funext j
      by_cases hj1 : j = n + u
      ·subst hj1
       have : ¬ (n + u < n) := by omega
       simp only [if_true, rowsOf, this, if_false]
       symm
       refine List.filter_eq_nil_iff.2 fun x hx hxt => ?_
       have h2 := (mem_cutL.1 hx).2.2
       have : x.t = ((n + u : Nat) : Int) - n := by simpa using hxt
       omega
      ·simp only [hj1, if_false]
       by_cases hj2 : j = u
       ·subst hj2
        simp only [if_true, rowsOf, hun]
        symm
        refine List.filter_eq_nil_iff.2 fun x hx hxf => ?_
        have h2 := (mem_cutL.1 hx).2.1
        have : x.f = (j : Int) := by simpa using hxf
        omega
       ·simp only [hj2, if_false]
        exact hrows j (.inl hj1) (.inl hj2)
     rw [← hfun]; exact at11
    ·rcases hf3 k hk2 with h' | h'
     ·exact h'
     ·have := k1.size; omega
    ·rcases hf3 k (hs2 k hk) with h' | h'
     ·exact .inl h'
     ·exact .inr (Nat.le_trans k1.size h')
   ·have hv : ¬ (0 ≤ v ∧ v < n) := fun hv => by rw [hr.2 hv] at hb; cases hb
    have hfun : cutX n l O (inL l v) = rowsOf n (cutL l v) := by
     funext j; exact hrows j (.inr hv) (.inr hv)
    rw [hfun] at at9
    exact hQ w9 N3 ⟨at9, hok.cut _, hsz⟩ hg3 m9 fun k hk => (hf3 k hk).imp id fun h' => Nat.le_trans k1.size h'
end Go.Proofs.YtjjgcimlmjnaeaaGreat

namespace Go.Proofs.YtjjgcimlmjnaeaaGreat
open Go Go.Den
section
variable {w w' : World} {g : Nat} {s : Sl} {n : Nat} {l : List Arc}
end
end Go.Proofs.YtjjgcimlmjnaeaaGreat
