/-
  What is asked of the program's net; a new one; a copy.
-/
import Derived.Test.YtelbklglflhleaaMqPut
namespace Go.Proofs.Ytelbklglflhleaa
open Go Go.Den

theorem Len_i {N : NetS} {n : Nat} {l : List Arc} {w : World} {Q : Int → World → Prop} (h : NetIs w N n l) (hQ : Q (n : Int) w) : F_net_Net_Len (some ⟨N.g, 0, none⟩) w Q := by
  unfold F_net_Net_Len
  refine cond_i (fun h => by simp at h) (fun _ => ?_)
  exact onSome_i rfl (ld1_i (k := .slice) ⟨some ⟨N.go, 0, none⟩, n, n⟩ h.at_.c0 hQ)
theorem Len_none {w : World} {Q : Int → World → Prop} (hQ : Q 0 w) : F_net_Net_Len none w Q := by
  unfold F_net_Net_Len
  exact cond_i (fun _ => hQ) (fun h => by simp at h)
theorem has_i {N : NetS} {n : Nat} {l : List Arc} {v : Int} {w : World} {Q : Bool → World → Prop} (h : NetIs w N n l) (hQ : ∀ r : Bool, (r = true ↔ 0 ≤ v ∧ v < n) → Q r w) : F_net_Net_has (some ⟨N.g, 0, none⟩) v w Q := by
  unfold F_net_Net_has
  refine cond_d (fun h1 => Len_i h (hQ _ (by simp; omega))) (fun h1 => hQ _ (by simp; omega))

theorem Out_i {N : NetS} {n : Nat} {l : List Arc} {v : Int} {w : World} {Q : Sl → World → Prop} (h : NetIs w N n l) (hQ : ∀ s' w', Vec w' tArc 4 eArc s' (outL l v) → Keep w w' → (∀ b, s'.b = some b → w.heap.size ≤ b.block) → Q s' w') :
    F_net_Net_Out (some ⟨N.g, 0, none⟩) v w Q := by
  unfold F_net_Net_Out
  have hsz := h.sz
  refine has_i h fun r hr => cond_i (fun h1 => ?_) (fun h1 => ?_)
  · have hn : outL l v = [] := by
      apply List.filter_eq_nil_iff.2
      intro x hx hxv
      have := h.ok.may x hx
      have e : x.f = v := by simpa using hxv
      have : r = true := hr.2 ⟨by rw [← e]; exact this.1, by rw [← e]; exact this.2.1⟩
      rw [this] at h1; cases h1
    exact hQ _ w (by rw [hn]; exact Vec.nil _ _ _ _) (Mod.refl _ _) (fun b hb => by cases hb)
  · have hv := hr.1 (by cases r <;> simp at h1 ⊢)
    obtain ⟨u, rfl⟩ : ∃ u : Nat, v = (u : Int) := ⟨v.toNat, by omega⟩
    have hu : u < n := by omega
    refine onSome_i rfl (ld1_i (k := .slice) ⟨some ⟨N.go, 0, none⟩, n, n⟩ h.at_.c0 ?_)
    refine ⟨⟨by omega, by show _ < ((n : Nat) : Int); omega⟩, onSome_i rfl ?_⟩
    obtain ⟨s, hs, hcell⟩ := h.at_.out hu
    refine ld1_i (k := .slice) s hcell ?_
    have hrow := h.at_.row u s hs
    have hX : rowsOf n l u = outL l (u : Int) := by simp [rowsOf, hu]
    rw [hX] at hrow
    have := h.ok.out_len (u : Int)
    exact Clone_i (hrow.rd lenA) (by omega) hQ
theorem In_i {N : NetS} {n : Nat} {l : List Arc} {v : Int} {w : World} {Q : Sl → World → Prop} (h : NetIs w N n l) (hQ : ∀ s' w', Vec w' tArc 4 eArc s' (inL l v) → Keep w w' → (∀ b, s'.b = some b → w.heap.size ≤ b.block) → Q s' w') :
    F_net_Net_In (some ⟨N.g, 0, none⟩) v w Q := by
  unfold F_net_Net_In
  have hsz := h.sz
  refine has_i h fun r hr => cond_i (fun h1 => ?_) (fun h1 => ?_)
  · have hn : inL l v = [] := by
      apply List.filter_eq_nil_iff.2
      intro x hx hxv
      have := h.ok.may x hx
      have e : x.t = v := by simpa using hxv
      have : r = true := hr.2 ⟨by rw [← e]; exact this.2.2.1, by rw [← e]; exact this.2.2.2.1⟩
      rw [this] at h1; cases h1
    exact hQ _ w (by rw [hn]; exact Vec.nil _ _ _ _) (Mod.refl _ _) (fun b hb => by cases hb)
  · have hv := hr.1 (by cases r <;> simp at h1 ⊢)
    obtain ⟨u, rfl⟩ : ∃ u : Nat, v = (u : Int) := ⟨v.toNat, by omega⟩
    have hu : u < n := by omega
    refine onSome_i rfl (ld1_i (k := .slice) ⟨some ⟨N.gi, 0, none⟩, n, n⟩ h.at_.c1 ?_)
    refine ⟨⟨by omega, by show _ < ((n : Nat) : Int); omega⟩, onSome_i rfl ?_⟩
    obtain ⟨s, hs, hcell⟩ := h.at_.inn hu
    refine ld1_i (k := .slice) s hcell ?_
    have hrow := h.at_.row (n + u) s hs
    have hX : rowsOf n l (n + u) = inL l (u : Int) := by
      have : ¬ (n + u < n) := by omega
      simp only [rowsOf, this, if_false]; congr 1; omega
    rw [hX] at hrow
    have := h.ok.in_len (u : Int)
    exact Clone_i (hrow.rd lenA) (by omega) hQ

theorem zero_store {w : World} {g : Nat} {cs : List Value} {x : Arc} {K : World → Prop} (h : Own w g tArc cs) (hl : cs.length = 4) (hK : ∀ w', Own w' g tArc (eArc x) → Mod (fun k => k = g) w w' → K w') :
    storeD Try.prog tArc ⟨g, 0, none⟩ (arcV x) w K := by
  refine storeD_i h size_Arc (by simp [Value.cells, hl]) (by simp [Value.cells, Value.oneCell']) fun w' ho hm _ => hK w' ?_ hm
  have : cs.take 0 ++ (arcV x).cells.toList ++ cs.drop (0 + (arcV x).cells.size) = eArc x := by
    simp [Value.cells, List.drop_of_length_le (show cs.length ≤ 4 by omega)]
  rwa [this] at ho

theorem Arc_i {N : NetS} {n : Nat} {l : List Arc} {f t : Int} {w : World} {Q : (Int × Int × Int × Int × Unit) → Bool → World → Prop} (h : NetIs w N n l)
    (hyes : ∀ x w', findL l f t = some x → Keep w w' → Q (tupA x) true w') (hno : ∀ w', findL l f t = none → Keep w w' → Q (0, 0, 0, 0, ()) false w') : F_net_Net_Arc (some ⟨N.g, 0, none⟩) f t w Q := by
  unfold F_net_Net_Arc
  simp only [allocD]
  have k1 := Keep.alloc w (.cells #[Value.int .i64 0, Value.int .i64 0, Value.int .i64 0, Value.int .i64 0] 32)
  have o1 : Own (w.alloc (.cells #[Value.int .i64 0, Value.int .i64 0, Value.int .i64 0, Value.int .i64 0] 32)) w.heap.size 32 (eArc ⟨0, 0, 0, 0⟩) := Own.alloc' w _ 32
  generalize hw1 : w.alloc (.cells #[Value.int .i64 0, Value.int .i64 0, Value.int .i64 0, Value.int .i64 0] 32) = w1 at *
  generalize hb1 : w.heap.size = b1 at *
  have h1 := h.keep k1
  have hsz := h.sz
  have fin : ∀ {w2 : World} (x : Arc) (K : World → Prop), Keep w w2 → Own w2 b1 32 (eArc ⟨0, 0, 0, 0⟩) → (∀ w3, Keep w w3 → Own w3 b1 32 (eArc x) → K w3) → storeD Try.prog 32 ⟨b1, 0, none⟩ (arcV x) w2 K := fun x K k2 o2 hK =>
    zero_store o2 rfl fun w3 o3 m3 => hK w3 (Mod.fresh k2 m3 fun k hk => by omega) o3
  refine has_i h1 fun r hr => cond_i (fun hb => ?_) (fun hb => ?_)
  · refine fin ⟨0, 0, 0, 0⟩ _ k1 o1 fun w3 k3 o3 => ldN_i (tupA ⟨0, 0, 0, 0⟩) (own_all o3) (hno w3 ?_ k3)
    cases hf : findL l f t with
    | none => rfl
    | some x =>
      obtain ⟨hx, e1, _⟩ := findL_some hf
      have := h.ok.may x hx
      rw [hr.2 ⟨by rw [← e1]; exact this.1, by rw [← e1]; exact this.2.1⟩] at hb; cases hb
  · have hv := hr.1 (by cases r <;> simp at hb ⊢)
    obtain ⟨u, rfl⟩ : ∃ u : Nat, f = (u : Int) := ⟨f.toNat, by omega⟩
    have hu : u < n := by omega
    refine onSome_i rfl (ld1_i (k := .slice) ⟨some ⟨N.go, 0, none⟩, n, n⟩ h1.at_.c0 ?_)
    refine ⟨⟨by omega, by show _ < ((n : Nat) : Int); omega⟩, onSome_i rfl ?_⟩
    obtain ⟨s, hs, hcell⟩ := h1.at_.out hu
    refine ld1_i (k := .slice) s hcell ?_
    have hrow := h1.at_.row u s hs
    have hX : rowsOf n l u = outL l (u : Int) := by simp [rowsOf, hu]
    rw [hX] at hrow
    have hlen := h.ok.out_len (u : Int)
    refine byTo_i (hrow.rd lenA) (h.ok.srt.out _) (by omega) fun i found w4 k4 low hf => ?_
    have o4 := o1.mod k4 id
    have h4 := h1.keep k4
    refine cond_i (fun hb => ?_) (fun hb => ?_)
    · refine fin ⟨0, 0, 0, 0⟩ _ (k1.tr k4) o4 fun w5 k5 o5 => ldN_i (tupA ⟨0, 0, 0, 0⟩) (own_all o5) (hno w5 ?_ k5)
      cases hfl : findL l (u : Int) t with
      | none => rfl
      | some x =>
        obtain ⟨hx, e1, e2⟩ := findL_some hfl
        rw [hf.2 ⟨x, mem_outL.2 ⟨hx, e1⟩, e2⟩] at hb; cases hb
    · obtain ⟨x, hx, hxt⟩ := hf.1 (by cases found <;> simp at hb ⊢)
      have hxi := low.found (h.ok.srt.out _) hx hxt
      have hi : i < (outL l (u : Int)).length := (List.getElem?_eq_some_iff.1 hxi).1
      have hxl := mem_outL.1 hx
      have hfl : findL l (u : Int) t = some x := by rw [← hxl.2, ← hxt]; exact findL_eq h.ok.srt hxl.1
      refine onSome_i rfl (ld1_i (k := .slice) ⟨some ⟨N.go, 0, none⟩, n, n⟩ h4.at_.c0 ?_)
      refine ⟨⟨by omega, by show _ < ((n : Nat) : Int); omega⟩, onSome_i rfl ?_⟩
      obtain ⟨s', hs', hcell4⟩ := h4.at_.out hu
      rw [hs] at hs'; cases hs'
      refine ld1_i (k := .slice) s hcell4 ?_
      have hrow4 := hrow.mod k4 (fun _ _ => id)
      have hl4 := hrow4.len
      refine ⟨⟨by omega, by omega⟩, ?_⟩
      obtain ⟨a, ha, hh⟩ := rd_tup (hrow4.rd lenA) hxi
      refine onSome_i ha (ldN_i (tupA x) hh ?_)
      exact fin x _ (k1.tr k4) o4 fun w6 k6 o6 => ldN_i (tupA x) (own_all o6) (hyes x w6 hfl k6)

theorem All_i {N : NetS} {n : Nat} {l : List Arc} {w : World} {Q : Sl → World → Prop} (h : NetIs w N n l) (hl : l.length < 1099511627776) (hQ : ∀ s' w', Vec w' tArc 4 eArc s' l → Keep w w' → (∀ b, s'.b = some b → w.heap.size ≤ b.block) → Q s' w') :
    F_net_Net_All (some ⟨N.g, 0, none⟩) w Q := by
  unfold F_net_Net_All
  have hsz := h.sz
  refine Len_i h ?_
  have flen : ∀ i, i ≤ n → ((List.range i).flatMap fun v : Nat => outL l (v : Int)).length ≤ l.length := by
    intro i hi
    have e := flat_outL h.ok
    obtain ⟨d, rfl⟩ : ∃ d, n = i + d := ⟨n - i, by omega⟩
    rw [List.range_add, List.flatMap_append] at e
    rw [← congrArg List.length e]; simp
  refine loop_i (fun m t w' => ∃ (i : Nat) (s : Sl), i ≤ n ∧ m = n - i ∧ t = (s, (i : Int), ()) ∧ Keep w w' ∧ Vec w' tArc 4 eArc s ((List.range i).flatMap fun v : Nat => outL l (v : Int)) ∧ (∀ b, s.b = some b → w.heap.size ≤ b.block)) n
    ⟨0, ⟨none, 0, 0⟩, Nat.zero_le _, rfl, rfl, Mod.refl _ _, Vec.nil _ _ _ _, fun b hb => by cases hb⟩ ?_
  rintro m t w' ⟨i, s, hi, rfl, rfl, hk, hv, hb⟩ X hX
  dsimp only
  have h' := h.keep hk
  refine cond_d (fun hlt => ?_) (fun hge => ?_)
  · have hin : i < n := by omega
    refine onSome_i rfl (ld1_i (k := .slice) ⟨some ⟨N.go, 0, none⟩, n, n⟩ h'.at_.c0 ?_)
    refine ⟨⟨by omega, by show _ < ((n : Nat) : Int); omega⟩, onSome_i rfl ?_⟩
    obtain ⟨r, hr, hcell⟩ := h'.at_.out hin
    refine ld1_i (k := .slice) r hcell ?_
    have hrow := h'.at_.row i r hr
    have hXr : rowsOf n l i = outL l (i : Int) := by simp [rowsOf, hin]
    rw [hXr] at hrow
    have hsum := flen (i + 1) hin
    rw [List.range_succ, List.flatMap_append, List.length_append] at hsum
    simp only [List.flatMap_cons, List.flatMap_nil, List.append_nil] at hsum
    refine append_i elem_sArc lenA oneA hv (hrow.rd lenA) (by omega) (by omega) fun r2 w2 hv2 hm2 hb2 _ => ?_
    rw [w64 (by omega) (by omega)]
    refine hX (n - (i + 1)) _ _ (by omega) ⟨i + 1, r2, hin, rfl, rfl, Mod.fresh hk hm2 (fun k ⟨a, ha, hk⟩ => by rw [hk]; exact hb a ha), ?_, fun b hb' => ?_⟩
    · rw [List.range_succ, List.flatMap_append]; simpa using hv2
    · rcases hb2 with e | ⟨b', e, hlt⟩
      · exact hb b (by rw [← e]; exact hb')
      · rw [e] at hb'; cases hb'; have := hk.size; omega
  · have hin : i = n := by omega
    subst hin
    rw [flat_outL h.ok] at hv
    exact hQ s w' hv hk hb
end Go.Proofs.Ytelbklglflhleaa
