/-
  Of any levels how far it is going up, coming down, and both, from one to the nearest of some, is as the document says: the given statement 'SearchTells', without any condition.
-/
import Derived.Test.YtkghlmaalkmdkaaRows
import Derived.Test.YtkghlmaalkmdkaaQ6
namespace Go.Proofs.Ytkghlmaalkmdkaa
open Go Go.Den Go.ChangeShapes Go.WideShapes Go.ChangeAt Go.RowKit

set_option maxRecDepth 100000 in
theorem SearchTells_lifted (os : Os) (started : os.Started) (H : Type) (enc : TypeId × Value → H) :
    ReturnsInHanded {} Try.checked os 5 .any (Rows.searchTellsSpec.pre6 enc Try.prog Try.f5 Rows.searchTellsRow.domain false) (Rows.searchTellsSpec.post enc Try.prog Try.f5 false true false false) := by
  refine law_lifted (C := Try.checked) own started (by kernel_rfl) Try.func5
    (ChangeSpec.witness6 (enc := enc) (C := Try.checked) false ⟨#[], #[.int .i64 0, .slice none 0 0, .slice none 0 0, .slice none 0 0], []⟩ 8 (by kernel_rfl) (by kernel_rfl) (by kernel_rfl) (by kernel_rfl))
    rfl (fun ds h => ?_) (tb := 4) (by kernel_rfl) (by kernel_rfl) laid (of_decide_eq_true (by kernel_rfl)) ?_
  · match ds, h with
    | [_, _, _, _], _ => rfl
  intro W base args ds ps hval hA
  have hval' : ∀ (j : Nat) t v, Try.f5.params[j]? = some t → args[j]? = some v → Value.okWide Try.prog W .any base t v := hval
  have hA' : DataW.TrodAll enc Try.prog W 0 (fun _ => true) true Try.f5.params.toList args.toList ds ps := hA
  rw [show Try.f5.params = #[3, 22, 23, 23] by kernel_rfl] at hA' hval'
  obtain ⟨v0, vs0, d0, ds0, p0, q0, hargs, rfl, rfl, h0, r0⟩ := trodAll_cons hA'
  obtain ⟨v1, vs1, d1, ds1, p1, q1, rfl, rfl, rfl, h1, r1⟩ := trodAll_cons r0
  obtain ⟨v2, vs2, d2, ds2, p2, q2, rfl, rfl, rfl, h2, r2⟩ := trodAll_cons r1
  obtain ⟨v3, vs3, d3, ds3, p3, q3, rfl, rfl, rfl, h3, r3⟩ := trodAll_cons r2
  obtain ⟨rfl, rfl, rfl⟩ := trodAll_nil r3
  obtain rfl : args = #[v0, v1, v2, v3] := by cases args; simp_all
  obtain ⟨n0, rfl, _, _, _⟩ := open_int (t := 3) (k := .i64) (by kernel_rfl) (hval' 0 3 v0 rfl rfl) h0
  obtain ⟨s1, xs1, rfl, hs1⟩ := arg_r3 (t := 22) (by kernel_rfl) (hval' 1 22 v1 rfl rfl) h1
  obtain ⟨s2, xs2, rfl, hs2⟩ := arg_is (t := 23) (by kernel_rfl) (hval' 2 23 v2 rfl rfl) h2
  obtain ⟨s3, xs3, rfl, hs3⟩ := arg_is (t := 23) (by kernel_rfl) (hval' 3 23 v3 rfl rfl) h3
  refine call_of S_law18_SearchTells (args := [.int .i64 n0, .slice s1.b s1.l s1.c, .slice s2.b s2.l s2.c, .slice s3.b s3.l s3.c]) ?_
  exact decK_intro (ks := [.c (.int .i64), .c .slice, .c .slice, .c .slice]) (t := (n0, s1, s2, s3, ())) (SearchTells_i hs1 hs2 hs3 fun w' h => ⟨rfl, h.wk⟩)

theorem SearchTells_holds : Rows.SearchTellsSaid :=
  OpenClaim.holds_of_wide 5 Try.f5 rfl rfl rfl rfl rfl rfl rfl ⟨rfl, rfl, rfl, rfl, rfl⟩ rfl rfl rfl rfl rfl (by kernel_rfl) Try.func5 (by kernel_rfl)
    (of_decide_eq_true (by kernel_rfl)) (by unfold Func.isWrapper; first | (rw [if_pos (by decide +kernel)]; kernel_rfl) | (rw [if_neg (by decide +kernel)]; exact ⟨rfl, rfl⟩))
    (fun os started H enc _ => SearchTells_lifted os started H enc)
#print axioms SearchTells_holds
end Go.Proofs.Ytkghlmaalkmdkaa
