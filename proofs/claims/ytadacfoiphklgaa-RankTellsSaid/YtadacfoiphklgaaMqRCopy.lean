/-
  A copy of the document's net.
-/
import Derived.Test.YtadacfoiphklgaaMqRNet2
namespace Go.Proofs.Ytadacfoiphklgaa
open Go Go.Den
section
variable {w : World} {g : Nat} {s : Sl} {n : Nat} {l : List Arc}
theorem rCopy_i {Q : Option Addr → World → Prop} (h : RNetIs w g s n l) (hl : l.length < 1099511627776)
    (hQ : ∀ w' g' s', RNetIs w' g' s' n l → Keep w w' → (∀ k, rhas g' s' k → w.heap.size ≤ k) → Q (some ⟨g', 0, none⟩) w') : F_ref4_Net_Copy (some ⟨g, 0, none⟩) w Q := by
  unfold F_ref4_Net_Copy
  have d : Keep w w.drew := Mod.drew (Mod.refl _ w)
  have h0 := h.keep d
  refine onSome_i rfl (ld1_i (k := .int .i64) (n : Int) h0.c0 (onSome_i rfl (ld1_i (k := .slice) s h0.c1 ?_)))
  simp only [allocD]
  have k1 := Keep.alloc w.drew (.cells #[] 42)
  have h1 := h0.keep k1
  have v0 : Vec (w.drew.alloc (.cells #[] 42)) tArc 4 eArc ⟨some ⟨w.drew.heap.size, 0, none⟩, 0, 0⟩ [] := Vec.lit w.drew tArc eArc lenA [] #[] rfl (by simp)
  refine ⟨h1.c1, h1.c0, ?_⟩
  refine append_i elem_sArc lenA oneA v0 (h1.vec.rd lenA) (by simp; omega) (by simp; omega) fun s2 w2 v2 m2 hb2 _ => ?_
  simp only [List.nil_append] at v2
  have k2 : Keep w w2 := Mod.fresh (d.tr k1) m2 fun k ⟨b, hb, hk⟩ => by cases hb; rw [hk]; exact Nat.le_refl _
  have f2 : ∀ b, s2.b = some b → w.heap.size ≤ b.block := fun b hb => by
    rcases hb2 with e | ⟨b', e, hlt⟩
    · rw [hb] at e; cases e; exact Nat.le_refl _
    · rw [e] at hb; cases hb; exact Nat.le_trans k1.size hlt
  refine ⟨(h.keep k2).c0, ?_⟩
  have k3 := Keep.alloc w2 (.cells #[Value.int .i64 (n : Int), Value.slice s2.b s2.l s2.c] 57)
  refine hQ _ w2.heap.size s2 ⟨Own.alloc' w2 _ _, v2.mod k3 (fun _ _ => id), fun a ha => Nat.ne_of_lt (v2.lt ha), h.ok, h.sz⟩ (k2.tr k3) fun k hk => ?_
  rcases hk with rfl | ⟨a, ha, rfl⟩
  · exact k2.size
  · exact f2 a ha
end
end Go.Proofs.Ytadacfoiphklgaa
