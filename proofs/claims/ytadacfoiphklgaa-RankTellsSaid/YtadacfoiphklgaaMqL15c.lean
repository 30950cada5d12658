/-
  Chapter 15's laws: RankTells.
-/
import Derived.Test.YtadacfoiphklgaaMqL15
import Derived.Test.YtadacfoiphklgaaMqRRank
namespace Go.Proofs.Ytadacfoiphklgaa
open Go Go.Den

theorem RankTells_i {n : Int} {l gone : Sl} {rows : List R3} {gs : List Bool} {W : World} {Q : Bool → World → Prop} (hl : Rd W l 3 eR3 rows) (hg : Rd W gone 1 eB gs) (hQ : ∀ w', Keep W w' → Q true w') : F_law15_RankTells n l gone W Q := by
  unfold F_law15_RankTells
  have hll := hl.len
  have hgl := hg.len
  refine cond_d (fun h => awake15_i hQ) (fun h1 => ?_)
  refine cond_d (fun h => awake15_i hQ) (fun h2 => ?_)
  refine cond_d (fun h => awake15_i hQ) (fun h3 => ?_)
  refine cond_d (fun h => awake15_i hQ) (fun h4 => ?_)
  refine made_i (by omega) (by omega) hl (by omega) fun w5 N g sR hN hR hap k5 fN fR => ?_
  generalize netOf n rows = L at *
  obtain ⟨m, rfl⟩ : ∃ m : Nat, n = (m : Int) := ⟨n.toNat, by omega⟩
  simp only [Int.toNat_natCast] at *
  refine cond_i (fun h => by simp at h) (fun _ => ?_)
  refine loop_i (fun c t w6 => ∃ (i : Nat), i ≤ m ∧ c = m - i ∧ t = ((i : Int), ()) ∧ Keep w5 w6) m ⟨0, Nat.zero_le _, rfl, rfl, Mod.refl _ _⟩ ?_
  rintro c t w6 ⟨i, hi, rfl, rfl, k6⟩ X hX
  dsimp only
  have hN6 := hN.keep k6
  have hR6 := hR.keep k6
  refine cond_d (fun hlt => ?_) (fun hge => ?_)
  · have hi' : i < m := by omega
    have hsb := short_bnd hN.ok hN.sz (i : Int)
    refine Shortcuts_i hN6 fun s1 w7 v7 k7 _ => ?_
    refine rShortcuts_i (hR6.keep k7) fun s2 w8 v8 k8 _ => ?_
    refine ArcsSame_i ((v7.mod k8 fun _ _ => id).rd lenA) (v8.rd lenA) (by omega) fun r w9 k9 hr => ?_
    refine cond_i (fun hb => by rw [hr.2 rfl] at hb; cases hb) (fun _ => ?_)
    have K9 := (k7.tr k8).tr k9
    refine Worth_i (hN6.keep K9) fun w10 k10 => ?_
    refine rWorth_i ((hR6.keep K9).keep k10) fun w11 k11 => ?_
    refine cond_i (fun h => by simp at h) (fun _ => ?_)
    rw [wi_ i (by omega)]
    exact hX _ _ _ (by omega) ⟨i + 1, hi', rfl, rfl, ((k6.tr K9).tr k10).tr k11⟩
  · refine First_i hN6 (hg.mod (k5.tr k6) (by simp) fun _ _ => id) (by omega) fun w12 k12 => ?_
    refine rFirst_i (hR6.keep k12) (hg.mod ((k5.tr k6).tr k12) (by simp) fun _ _ => id) (by omega) fun w13 k13 => ?_
    refine cond_i (fun _ => ?_) (fun h => by simp at h)
    exact awake15_i fun w' k' => hQ w' ((((k5.tr k6).tr k12).tr k13).tr k')
end Go.Proofs.Ytadacfoiphklgaa
