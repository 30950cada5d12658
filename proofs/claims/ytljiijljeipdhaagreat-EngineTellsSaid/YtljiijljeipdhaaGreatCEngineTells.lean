/-
  Chapter 20: of any graph, edge and node, the program's way is as the document says: the given statement 'EngineTells', without any condition.
-/
import Derived.Test.YtljiijljeipdhaaGreatRows
import Derived.Test.YtljiijljeipdhaaGreatQ7
namespace Go.Proofs.YtljiijljeipdhaaGreat
open Go Go.Den Go.ChangeShapes Go.WideShapes Go.ChangeAt Go.RowKit

set_option maxRecDepth 100000 in
theorem EngineTells_lifted (os : Os) (started : os.Started) (H : Type) (enc : TypeId × Value → H) :
    ReturnsInHanded {} Tryz.checked os 3 .any (Rows.engineTellsSpec.pre6 enc Tryz.prog Tryz.f3 Rows.engineTellsRow.domain false) (Rows.engineTellsSpec.post enc Tryz.prog Tryz.f3 false true false false) := by
  refine law_lifted (C := Tryz.checked) own started (by kernel_rfl) Tryz.func3
    (ChangeSpec.witness6 (enc := enc) (C := Tryz.checked) false ⟨#[], #[.slice none 0 0, .slice none 0 0, .slice none 0 0], []⟩ 8 (by kernel_rfl) (by kernel_rfl) (by kernel_rfl) (by kernel_rfl))
    rfl (fun ds h => ?_) (tb := 4) (by kernel_rfl) (by kernel_rfl) laid (of_decide_eq_true (by kernel_rfl)) ?_
  · match ds, h with
    | [_, _, _], _ => rfl
  intro W base args ds ps hval hA
  have hval' : ∀ (j : Nat) t v, Tryz.f3.params[j]? = some t → args[j]? = some v → Value.okWide Tryz.prog W .any base t v := hval
  have hA' : DataW.TrodAll enc Tryz.prog W 0 (fun _ => true) true Tryz.f3.params.toList args.toList ds ps := hA
  rw [show Tryz.f3.params = #[22, 23, 24] by kernel_rfl] at hA' hval'
  obtain ⟨v0, vs0, d0, ds0, p0, q0, hargs, rfl, rfl, h0, r0⟩ := trodAll_cons hA'
  obtain ⟨v1, vs1, d1, ds1, p1, q1, rfl, rfl, rfl, h1, r1⟩ := trodAll_cons r0
  obtain ⟨v2, vs2, d2, ds2, p2, q2, rfl, rfl, rfl, h2, r2⟩ := trodAll_cons r1
  obtain ⟨rfl, rfl, rfl⟩ := trodAll_nil r2
  obtain rfl : args = #[v0, v1, v2] := by cases args; simp_all
  obtain ⟨s0, xs0, rfl, hs0⟩ := arg_is (t := 22) (by kernel_rfl) (hval' 0 22 v0 rfl rfl) h0
  obtain ⟨s1, xs1, rfl, hs1⟩ := arg_p2 (t := 23) (by kernel_rfl) (hval' 1 23 v1 rfl rfl) h1
  obtain ⟨s2, xs2, rfl, hs2⟩ := arg_iss (t := 24) (by kernel_rfl) (hval' 2 24 v2 rfl rfl) h2
  refine call_of S_law20_EngineTells (args := [.slice s0.b s0.l s0.c, .slice s1.b s1.l s1.c, .slice s2.b s2.l s2.c]) ?_
  exact decK_intro (ks := [.c .slice, .c .slice, .c .slice]) (t := (s0, s1, s2, ())) (EngineTells_i hs0 hs1 hs2 fun w' h => ⟨rfl, h.wk⟩)

theorem EngineTells_holds : Rows.EngineTellsSaid :=
  OpenClaim.holds_of_wide 3 Tryz.f3 rfl rfl rfl rfl rfl rfl rfl ⟨rfl, rfl, rfl, rfl, rfl⟩ rfl rfl rfl rfl rfl (by kernel_rfl) Tryz.func3 (by kernel_rfl)
    (of_decide_eq_true (by kernel_rfl)) (by unfold Func.isWrapper; first | (rw [if_pos (by decide +kernel)]; kernel_rfl) | (rw [if_neg (by decide +kernel)]; exact ⟨rfl, rfl⟩))
    (fun os started H enc _ => EngineTells_lifted os started H enc)
#print axioms EngineTells_holds
end Go.Proofs.YtljiijljeipdhaaGreat
