/-
  What is cut out of the program's net.
-/
import Derived.Test.YtlflndnfgeeieaaMqNet3
namespace Go.Proofs.Ytlflndnfgeeieaa
open Go Go.Den

section
variable {N : NetS} {n : Nat} {X : Nat → List Arc} {v : Int} {w : World}
theorem has_at {Q : Bool → World → Prop} (h : NetAt w N n X) (hn : n ≤ 512) (hQ : ∀ r : Bool, (r = true ↔ 0 ≤ v ∧ v < n) → Q r w) : F_net_Net_has (some ⟨N.g, 0, none⟩) v w Q := by
  unfold F_net_Net_has
  refine cond_d (fun h1 => ?_) (fun h1 => hQ _ (by simp; omega))
  unfold F_net_Net_Len
  refine cond_i (fun h => by simp at h) (fun _ => ?_)
  exact onSome_i rfl (ld1_i (k := .slice) ⟨some ⟨N.go, 0, none⟩, n, n⟩ h.c0 (hQ _ (by simp; omega)))
end

theorem mem_filter_not {l R : List Arc} {x : Arc} : x ∈ l.filter (fun y => decide (y ∉ R)) ↔ x ∈ l ∧ x ∉ R := by simp

/-- The rows while arcs are taken from their other ends. -/
def cutX (n : Nat) (l RO RI : List Arc) (j : Nat) : List Arc := if j < n then (outL l (j : Int)).filter (fun y => decide (y ∉ RI)) else (inL l ((j : Int) - n)).filter (fun y => decide (y ∉ RO))
theorem cutX_len {n : Nat} {l RO RI : List Arc} (h : OkL n l) (hn : n ≤ 512) (j : Nat) : (cutX n l RO RI j).length ≤ 512 := by
  unfold cutX
  split
  · have := List.length_filter_le (fun y => decide (y ∉ RI)) (outL l (j : Int)); have := h.out_len (j : Int); omega
  · have := List.length_filter_le (fun y => decide (y ∉ RO)) (inL l ((j : Int) - n)); have := h.in_len ((j : Int) - n); omega

theorem arc_eq {l : List Arc} (h : LSrt l) {x y : Arc} (hx : x ∈ l) (hy : y ∈ l) (hf : x.f = y.f) (ht : x.t = y.t) : x = y := by
  have h1 := findL_eq h hx
  have h2 := findL_eq h hy
  rw [hf, ht, h2] at h1
  exact (Option.some.inj h1).symm

theorem filter_step {key : Arc → Int} {row R : List Arc} {a : Arc} (hs : Srt key row) (h1 : ∀ x ∈ row, x ∉ R → key x = key a → x = a) :
    (row.filter fun y => decide (y ∉ R)).filter (fun y => decide (key y ≠ key a)) = row.filter fun y => decide (y ∉ R ++ [a]) := by
  refine ((hs.filter _).filter _).ext (hs.filter _) fun x => ?_
  simp only [List.mem_filter, decide_eq_true_eq, List.mem_append, List.mem_singleton, not_or]
  constructor
  · rintro ⟨⟨hx, hn⟩, hk⟩
    exact ⟨hx, hn, fun e => hk (by rw [e])⟩
  · rintro ⟨hx, hn, hne⟩
    exact ⟨⟨hx, hn⟩, fun hk => hne (h1 x hx hn hk)⟩

end Go.Proofs.Ytlflndnfgeeieaa
