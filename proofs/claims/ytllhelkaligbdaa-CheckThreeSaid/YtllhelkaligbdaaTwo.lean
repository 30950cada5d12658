/-
  One to three bits that are turned change the sum: the given statement 'CheckThree', without any condition.
-/
import Derived.Test.YtllhelkaligbdaaRows
import Derived.Test.YtllhelkaligbdaaTri
import Derived.Test.YtllhelkaligbdaaArgs
namespace Go.Proofs.Ytllhelkaligbdaa
open Go Go.Den Go.ChangeShapes Go.WideShapes Go.ChangeAt Go.RowKit

set_option maxRecDepth 100000 in
theorem CheckThree_lifted (os : Os) (started : os.Started) (H : Type) (enc : TypeId × Value → H) :
    ReturnsInHanded {} Try.checked os 4 .any (Rows.checkThreeSpec.pre6 enc Try.prog Try.f4 Rows.checkThreeRow.domain false) (Rows.checkThreeSpec.post enc Try.prog Try.f4 false true false false) := by
  refine law_lifted (C := Try.checked) own started (by kernel_rfl) Try.func4
    (ChangeSpec.witness6 (enc := enc) (C := Try.checked) false ⟨#[], #[.slice none 0 0, .agg #[.int .i64 0, .int .i64 0, .int .i64 0]], []⟩ 8 (by kernel_rfl) (by kernel_rfl) (by kernel_rfl) (by kernel_rfl))
    rfl (fun ds h => ?_) (tb := 4) (by kernel_rfl) (by kernel_rfl) laid (of_decide_eq_true (by kernel_rfl)) ?_
  · match ds, h with
    | [d1, d2], _ => rfl
  intro W base args ds ps hval hA
  have hval' : ∀ (j : Nat) t v, Try.f4.params[j]? = some t → args[j]? = some v → Value.okWide Try.prog W .any base t v := hval
  have hA' : DataW.TrodAll enc Try.prog W 0 (fun _ => true) true Try.f4.params.toList args.toList ds ps := hA
  rw [show Try.f4.params = #[22, 31] by kernel_rfl] at hA' hval'
  obtain ⟨v0, vs0, d0, ds0, p0, q0, hargs, rfl, rfl, h0, r0⟩ := trodAll_cons hA'
  obtain ⟨v1, vs1, d1, ds1, p1, q1, rfl, rfl, rfl, h1, r1⟩ := trodAll_cons r0
  obtain ⟨rfl, rfl, rfl⟩ := trodAll_nil r1
  obtain rfl : args = #[v0, v1] := by cases args; simp_all
  obtain ⟨s, zs, rfl, hs, hw, _⟩ := arg_ints elem22.under (by kernel_rfl) (by kernel_rfl) (hval' 0 22 v0 rfl rfl) h0
  obtain ⟨x, y, z, rfl, _, _, _⟩ := arg_three (t := 31) (e := 3) (k := .i64) (by kernel_rfl) (by kernel_rfl) (by kernel_rfl) (by kernel_rfl) (hval' 1 31 v1 rfl rfl) h1
  refine call_of S_law2_CheckThree (args := [.slice s.b s.l s.c, .agg #[.int .i64 x, .int .i64 y, .int .i64 z]]) ?_
  exact decK_intro (ks := [.c .slice, .agg [.int .i64, .int .i64, .int .i64]]) (t := (s, (x, y, z, ()), ())) (CheckThree_i (to_bytes hs hw) fun w' h => ⟨rfl, h⟩)

theorem CheckThree_holds : Rows.CheckThreeSaid :=
  OpenClaim.holds_of_wide 4 Try.f4 rfl rfl rfl rfl rfl rfl rfl ⟨rfl, rfl, rfl, rfl, rfl⟩ rfl rfl rfl rfl rfl (by kernel_rfl) Try.func4 (by kernel_rfl)
    (of_decide_eq_true (by kernel_rfl)) (by unfold Func.isWrapper; first | (rw [if_pos (by decide +kernel)]; kernel_rfl) | (rw [if_neg (by decide +kernel)]; exact ⟨rfl, rfl⟩))
    (fun os started H enc _ => CheckThree_lifted os started H enc)
#print axioms CheckThree_holds
end Go.Proofs.Ytllhelkaligbdaa
