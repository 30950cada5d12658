/-
  What is asked of the program's net; a new one; a copy.
-/
import Derived.Test.YtadacfoiphklgaaMqPut
namespace Go.Proofs.Ytadacfoiphklgaa
open Go Go.Den

theorem Len_i {N : NetS} {n : Nat} {l : List Arc} {w : World} {Q : Int → World → Prop} (h : NetIs w N n l) (hQ : Q (n : Int) w) : F_net_Net_Len (some ⟨N.g, 0, none⟩) w Q := by
  unfold F_net_Net_Len
  refine cond_i (fun h => by simp at h) (fun _ => ?_)
  exact onSome_i rfl (ld1_i (k := .slice) ⟨some ⟨N.go, 0, none⟩, n, n⟩ h.at_.c0 hQ)
theorem Len_none {w : World} {Q : Int → World → Prop} (hQ : Q 0 w) : F_net_Net_Len none w Q := by
  unfold F_net_Net_Len
  exact cond_i (fun _ => hQ) (fun h => by simp at h)
theorem has_i {N : NetS} {n : Nat} {l : List Arc} {v : Int} {w : World} {Q : Bool → World → Prop} (h : NetIs w N n l) (hQ : ∀ r : Bool, (r = true ↔ 0 ≤ v ∧ v < n) → Q r w) : F_net_Net_has (some ⟨N.g, 0, none⟩) v w Q := by
  unfold F_net_Net_has
  refine cond_d (fun h1 => Len_i h (hQ _ (by simp; omega))) (fun h1 => hQ _ (by simp; omega))

theorem Out_i {N : NetS} {n : Nat} {l : List Arc} {v : Int} {w : World} {Q : Sl → World → Prop} (h : NetIs w N n l) (hQ : ∀ s' w', Vec w' tArc 4 eArc s' (outL l v) → Keep w w' → (∀ b, s'.b = some b → w.heap.size ≤ b.block) → Q s' w') :
    F_net_Net_Out (some ⟨N.g, 0, none⟩) v w Q := by
  unfold F_net_Net_Out
  have hsz := h.sz
  refine has_i h fun r hr => cond_i (fun h1 => ?_) (fun h1 => ?_)
  · have hn : outL l v = [] := by
      apply List.filter_eq_nil_iff.2
      intro x hx hxv
      have := h.ok.may x hx
      have e : x.f = v := by simpa using hxv
      have : r = true := hr.2 ⟨by rw [← e]; exact this.1, by rw [← e]; exact this.2.1⟩
      rw [this] at h1; cases h1
    exact hQ _ w (by rw [hn]; exact Vec.nil _ _ _ _) (Mod.refl _ _) (fun b hb => by cases hb)
  · have hv := hr.1 (by cases r <;> simp at h1 ⊢)
    obtain ⟨u, rfl⟩ : ∃ u : Nat, v = (u : Int) := ⟨v.toNat, by omega⟩
    have hu : u < n := by omega
    refine onSome_i rfl (ld1_i (k := .slice) ⟨some ⟨N.go, 0, none⟩, n, n⟩ h.at_.c0 ?_)
    refine ⟨⟨by omega, by show _ < ((n : Nat) : Int); omega⟩, onSome_i rfl ?_⟩
    obtain ⟨s, hs, hcell⟩ := h.at_.out hu
    refine ld1_i (k := .slice) s hcell ?_
    have hrow := h.at_.row u s hs
    have hX : rowsOf n l u = outL l (u : Int) := by simp [rowsOf, hu]
    rw [hX] at hrow
    have := h.ok.out_len (u : Int)
    exact Clone_i (hrow.rd lenA) (by omega) hQ
theorem In_i {N : NetS} {n : Nat} {l : List Arc} {v : Int} {w : World} {Q : Sl → World → Prop} (h : NetIs w N n l) (hQ : ∀ s' w', Vec w' tArc 4 eArc s' (inL l v) → Keep w w' → (∀ b, s'.b = some b → w.heap.size ≤ b.block) → Q s' w') :
    F_net_Net_In (some ⟨N.g, 0, none⟩) v w Q := by
  unfold F_net_Net_In
  have hsz := h.sz
  refine has_i h fun r hr => cond_i (fun h1 => ?_) (fun h1 => ?_)
  · have hn : inL l v = [] := by
      apply List.filter_eq_nil_iff.2
      intro x hx hxv
      have := h.ok.may x hx
      have e : x.t = v := by simpa using hxv
      have : r = true := hr.2 ⟨by rw [← e]; exact this.2.2.1, by rw [← e]; exact this.2.2.2.1⟩
      rw [this] at h1; cases h1
    exact hQ _ w (by rw [hn]; exact Vec.nil _ _ _ _) (Mod.refl _ _) (fun b hb => by cases hb)
  · have hv := hr.1 (by cases r <;> simp at h1 ⊢)
    obtain ⟨u, rfl⟩ : ∃ u : Nat, v = (u : Int) := ⟨v.toNat, by omega⟩
    have hu : u < n := by omega
    refine onSome_i rfl (ld1_i (k := .slice) ⟨some ⟨N.gi, 0, none⟩, n, n⟩ h.at_.c1 ?_)
    refine ⟨⟨by omega, by show _ < ((n : Nat) : Int); omega⟩, onSome_i rfl ?_⟩
    obtain ⟨s, hs, hcell⟩ := h.at_.inn hu
    refine ld1_i (k := .slice) s hcell ?_
    have hrow := h.at_.row (n + u) s hs
    have hX : rowsOf n l (n + u) = inL l (u : Int) := by
      have : ¬ (n + u < n) := by omega
      simp only [rowsOf, this, if_false]; congr 1; omega
    rw [hX] at hrow
    have := h.ok.in_len (u : Int)
    exact Clone_i (hrow.rd lenA) (by omega) hQ

theorem zero_store {w : World} {g : Nat} {cs : List Value} {x : Arc} {K : World → Prop} (h : Own w g tArc cs) (hl : cs.length = 4) (hK : ∀ w', Own w' g tArc (eArc x) → Mod (fun k => k = g) w w' → K w') :
    storeD Try.prog tArc ⟨g, 0, none⟩ (arcV x) w K := by
  refine storeD_i h size_Arc (by simp [Value.cells, hl]) (by simp [Value.cells, Value.oneCell']) fun w' ho hm _ => hK w' ?_ hm
  have : cs.take 0 ++ (arcV x).cells.toList ++ cs.drop (0 + (arcV x).cells.size) = eArc x := by
    simp [Value.cells, List.drop_of_length_le (show cs.length ≤ 4 by omega)]
  rwa [this] at ho

end Go.Proofs.Ytadacfoiphklgaa
