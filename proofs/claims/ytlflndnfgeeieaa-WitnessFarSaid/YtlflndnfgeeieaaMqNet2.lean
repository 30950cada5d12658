/-
  What is asked of the program's net; a new one; a copy.
-/
import Derived.Test.YtlflndnfgeeieaaMqPut
namespace Go.Proofs.Ytlflndnfgeeieaa
open Go Go.Den

theorem Len_i {N : NetS} {n : Nat} {l : List Arc} {w : World} {Q : Int → World → Prop} (h : NetIs w N n l) (hQ : Q (n : Int) w) : F_net_Net_Len (some ⟨N.g, 0, none⟩) w Q := by
  unfold F_net_Net_Len
  refine cond_i (fun h => by simp at h) (fun _ => ?_)
  exact onSome_i rfl (ld1_i (k := .slice) ⟨some ⟨N.go, 0, none⟩, n, n⟩ h.at_.c0 hQ)
theorem Len_none {w : World} {Q : Int → World → Prop} (hQ : Q 0 w) : F_net_Net_Len none w Q := by
  unfold F_net_Net_Len
  exact cond_i (fun _ => hQ) (fun h => by simp at h)
theorem has_i {N : NetS} {n : Nat} {l : List Arc} {v : Int} {w : World} {Q : Bool → World → Prop} (h : NetIs w N n l) (hQ : ∀ r : Bool, (r = true ↔ 0 ≤ v ∧ v < n) → Q r w) : F_net_Net_has (some ⟨N.g, 0, none⟩) v w Q := by
  unfold F_net_Net_has
  refine cond_d (fun h1 => Len_i h (hQ _ (by simp; omega))) (fun h1 => hQ _ (by simp; omega))

theorem Out_i {N : NetS} {n : Nat} {l : List Arc} {v : Int} {w : World} {Q : Sl → World → Prop} (h : NetIs w N n l) (hQ : ∀ s' w', Vec w' tArc 4 eArc s' (outL l v) → Keep w w' → (∀ b, s'.b = some b → w.heap.size ≤ b.block) → Q s' w') :
    F_net_Net_Out (some ⟨N.g, 0, none⟩) v w Q := by
  unfold F_net_Net_Out
  have hsz := h.sz
  refine has_i h fun r hr => cond_i (fun h1 => ?_) (fun h1 => ?_)
  · have hn : outL l v = [] := by
      apply List.filter_eq_nil_iff.2
      intro x hx hxv
      have := h.ok.may x hx
      have e : x.f = v := by simpa using hxv
      have : r = true := hr.2 ⟨by rw [← e]; exact this.1, by rw [← e]; exact this.2.1⟩
      rw [this] at h1; cases h1
    exact hQ _ w (by rw [hn]; exact Vec.nil _ _ _ _) (Mod.refl _ _) (fun b hb => by cases hb)
  · have hv := hr.1 (by cases r <;> simp at h1 ⊢)
    obtain ⟨u, rfl⟩ : ∃ u : Nat, v = (u : Int) := ⟨v.toNat, by omega⟩
    have hu : u < n := by omega
    refine onSome_i rfl (ld1_i (k := .slice) ⟨some ⟨N.go, 0, none⟩, n, n⟩ h.at_.c0 ?_)
    refine ⟨⟨by omega, by show _ < ((n : Nat) : Int); omega⟩, onSome_i rfl ?_⟩
    obtain ⟨s, hs, hcell⟩ := h.at_.out hu
    refine ld1_i (k := .slice) s hcell ?_
    have hrow := h.at_.row u s hs
    have hX : rowsOf n l u = outL l (u : Int) := by simp [rowsOf, hu]
    rw [hX] at hrow
    have := h.ok.out_len (u : Int)
    exact Clone_i (hrow.rd lenA) (by omega) hQ
theorem zero_store {w : World} {g : Nat} {cs : List Value} {x : Arc} {K : World → Prop} (h : Own w g tArc cs) (hl : cs.length = 4) (hK : ∀ w', Own w' g tArc (eArc x) → Mod (fun k => k = g) w w' → K w') :
    storeD Try.prog tArc ⟨g, 0, none⟩ (arcV x) w K := by
  refine storeD_i h size_Arc (by simp [Value.cells, hl]) (by simp [Value.cells, Value.oneCell']) fun w' ho hm _ => hK w' ?_ hm
  have : cs.take 0 ++ (arcV x).cells.toList ++ cs.drop (0 + (arcV x).cells.size) = eArc x := by
    simp [Value.cells, List.drop_of_length_le (show cs.length ≤ 4 by omega)]
  rwa [this] at ho

theorem Arc_i {N : NetS} {n : Nat} {l : List Arc} {f t : Int} {w : World} {Q : (Int × Int × Int × Int × Unit) → Bool → World → Prop} (h : NetIs w N n l)
    (hyes : ∀ x w', findL l f t = some x → Keep w w' → Q (tupA x) true w') (hno : ∀ w', findL l f t = none → Keep w w' → Q (0, 0, 0, 0, ()) false w') : F_net_Net_Arc (some ⟨N.g, 0, none⟩) f t w Q := by
  unfold F_net_Net_Arc
  simp only [allocD]
  have k1 := Keep.alloc w (.cells #[Value.int .i64 0, Value.int .i64 0, Value.int .i64 0, Value.int .i64 0] 37)
  have o1 : Own (w.alloc (.cells #[Value.int .i64 0, Value.int .i64 0, Value.int .i64 0, Value.int .i64 0] 37)) w.heap.size 37 (eArc ⟨0, 0, 0, 0⟩) := Own.alloc' w _ 37
  generalize hw1 : w.alloc (.cells #[Value.int .i64 0, Value.int .i64 0, Value.int .i64 0, Value.int .i64 0] 37) = w1 at *
  generalize hb1 : w.heap.size = b1 at *
  have h1 := h.keep k1
  have hsz := h.sz
  have fin : ∀ {w2 : World} (x : Arc) (K : World → Prop), Keep w w2 → Own w2 b1 37 (eArc ⟨0, 0, 0, 0⟩) → (∀ w3, Keep w w3 → Own w3 b1 37 (eArc x) → K w3) → storeD Try.prog 37 ⟨b1, 0, none⟩ (arcV x) w2 K := fun x K k2 o2 hK =>
    zero_store o2 rfl fun w3 o3 m3 => hK w3 (Mod.fresh k2 m3 fun k hk => by omega) o3
  refine has_i h1 fun r hr => cond_i (fun hb => ?_) (fun hb => ?_)
  · refine fin ⟨0, 0, 0, 0⟩ _ k1 o1 fun w3 k3 o3 => ldN_i (tupA ⟨0, 0, 0, 0⟩) (own_all o3) (hno w3 ?_ k3)
    cases hf : findL l f t with
    | none => rfl
    | some x =>
      obtain ⟨hx, e1, _⟩ := findL_some hf
      have := h.ok.may x hx
      rw [hr.2 ⟨by rw [← e1]; exact this.1, by rw [← e1]; exact this.2.1⟩] at hb; cases hb
  · have hv := hr.1 (by cases r <;> simp at hb ⊢)
    obtain ⟨u, rfl⟩ : ∃ u : Nat, f = (u : Int) := ⟨f.toNat, by omega⟩
    have hu : u < n := by omega
    refine onSome_i rfl (ld1_i (k := .slice) ⟨some ⟨N.go, 0, none⟩, n, n⟩ h1.at_.c0 ?_)
    refine ⟨⟨by omega, by show _ < ((n : Nat) : Int); omega⟩, onSome_i rfl ?_⟩
    obtain ⟨s, hs, hcell⟩ := h1.at_.out hu
    refine ld1_i (k := .slice) s hcell ?_
    have hrow := h1.at_.row u s hs
    have hX : rowsOf n l u = outL l (u : Int) := by simp [rowsOf, hu]
    rw [hX] at hrow
    have hlen := h.ok.out_len (u : Int)
    refine byTo_i (hrow.rd lenA) (h.ok.srt.out _) (by omega) fun i found w4 k4 low hf => ?_
    have o4 := o1.mod k4 id
    have h4 := h1.keep k4
    refine cond_i (fun hb => ?_) (fun hb => ?_)
    · refine fin ⟨0, 0, 0, 0⟩ _ (k1.tr k4) o4 fun w5 k5 o5 => ldN_i (tupA ⟨0, 0, 0, 0⟩) (own_all o5) (hno w5 ?_ k5)
      cases hfl : findL l (u : Int) t with
      | none => rfl
      | some x =>
        obtain ⟨hx, e1, e2⟩ := findL_some hfl
        rw [hf.2 ⟨x, mem_outL.2 ⟨hx, e1⟩, e2⟩] at hb; cases hb
    · obtain ⟨x, hx, hxt⟩ := hf.1 (by cases found <;> simp at hb ⊢)
      have hxi := low.found (h.ok.srt.out _) hx hxt
      have hi : i < (outL l (u : Int)).length := (List.getElem?_eq_some_iff.1 hxi).1
      have hxl := mem_outL.1 hx
      have hfl : findL l (u : Int) t = some x := by rw [← hxl.2, ← hxt]; exact findL_eq h.ok.srt hxl.1
      refine onSome_i rfl (ld1_i (k := .slice) ⟨some ⟨N.go, 0, none⟩, n, n⟩ h4.at_.c0 ?_)
      refine ⟨⟨by omega, by show _ < ((n : Nat) : Int); omega⟩, onSome_i rfl ?_⟩
      obtain ⟨s', hs', hcell4⟩ := h4.at_.out hu
      rw [hs] at hs'; cases hs'
      refine ld1_i (k := .slice) s hcell4 ?_
      have hrow4 := hrow.mod k4 (fun _ _ => id)
      have hl4 := hrow4.len
      refine ⟨⟨by omega, by omega⟩, ?_⟩
      obtain ⟨a, ha, hh⟩ := rd_tup (hrow4.rd lenA) hxi
      refine onSome_i ha (ldN_i (tupA x) hh ?_)
      exact fin x _ (k1.tr k4) o4 fun w6 k6 o6 => ldN_i (tupA x) (own_all o6) (hyes x w6 hfl k6)

end Go.Proofs.Ytlflndnfgeeieaa
