import Derived.Test.YtihggjgakbgomaaGreatRows
import Derived.Test.YtihggjgakbgomaaGreatQ6
namespace Go.Proofs.YtihggjgakbgomaaGreat
open Go Go.Den Go.ChangeShapes Go.WideShapes Go.ChangeAt Go.RowKit
set_option maxRecDepth 100000 in
theorem TopLevels_lifted (os : Os) (started : os.Started) (H : Type) (enc : TypeId × Value → H) :
  ReturnsInHanded {} Tryz.checked os 4 .any (Rows.topLevelsSpec.pre6 enc Tryz.prog Tryz.f4 Rows.topLevelsRow.domain false) (Rows.topLevelsSpec.post enc Tryz.prog Tryz.f4 false true false false) := by
 refine law_lifted (C := Tryz.checked) gR started (by kernel_rfl) Tryz.func4
  (ChangeSpec.witness6 (enc := enc) (C := Tryz.checked) false ⟨#[], #[.slice none 0 0, .int .i64 0, .int .i64 0, .slice none 0 0], []⟩ 8 (by kernel_rfl) (by kernel_rfl) (by kernel_rfl) (by kernel_rfl))
  rfl (fun ds h => ?_) (tb := 4) (by kernel_rfl) (by kernel_rfl) laid (of_decide_eq_true (by kernel_rfl)) ?_
 ·match ds, h with
  | [_, _, _, _], _ => rfl
 intro W nO args ds ps ko hA
 have Xb : ∀ (j : Nat) t v, Tryz.f4.params[j]? = some t → args[j]? = some v → Value.okWide Tryz.prog W .any nO t v := ko
 have hA' : DataW.TrodAll enc Tryz.prog W 0 (fun _ => true) true Tryz.f4.params.toList args.toList ds ps := hA
 rw [show Tryz.f4.params = #[22, 3, 3, 22] by kernel_rfl] at hA' Xb
 obtain ⟨v0, vs0, d0, ds0, p0, q0, hargs, rfl, rfl, h0, r0⟩ := trodAll_cons hA'
 obtain ⟨v1, vs1, d1, ds1, p1, q1, rfl, rfl, rfl, h1, r1⟩ := trodAll_cons r0
 obtain ⟨v2, vs2, d2, ds2, p2, q2, rfl, rfl, rfl, h2, r2⟩ := trodAll_cons r1
 obtain ⟨v3, vs3, d3, ds3, p3, q3, rfl, rfl, rfl, h3, r3⟩ := trodAll_cons r2
 obtain ⟨rfl, rfl, rfl⟩ := trodAll_nil r3
 obtain rfl : args = #[v0, v1, v2, v3] := by cases args; simp_all
 obtain ⟨s0, xs0, rfl, hs0⟩ := arg_is (t := 22) (by kernel_rfl) (Xb 0 22 v0 rfl rfl) h0
 obtain ⟨n1, rfl, _, _, _⟩ := open_int (t := 3) (k := .i64) (by kernel_rfl) (Xb 1 3 v1 rfl rfl) h1
 obtain ⟨n2, rfl, _, _, _⟩ := open_int (t := 3) (k := .i64) (by kernel_rfl) (Xb 2 3 v2 rfl rfl) h2
 obtain ⟨s3, xs3, rfl, Ci⟩ := arg_is (t := 22) (by kernel_rfl) (Xb 3 22 v3 rfl rfl) h3
 refine call_of De (args := [.slice s0.b s0.l s0.c, .int .i64 n1, .int .i64 n2, .slice s3.b s3.l s3.c]) ?_
 exact gN (ks := [.c .slice, .c (.int .i64), .c (.int .i64), .c .slice]) (t := (s0, n1, n2, s3, ())) (bp hs0 Ci fun w' h => ⟨rfl, h.wk⟩)
theorem TopLevels_holds : Rows.TopLevelsSaid :=
 OpenClaim.holds_of_wide 4 Tryz.f4 rfl rfl rfl rfl rfl rfl rfl ⟨rfl, rfl, rfl, rfl, rfl⟩ rfl rfl rfl rfl rfl (by kernel_rfl) Tryz.func4 (by kernel_rfl)
  (of_decide_eq_true (by kernel_rfl)) (by unfold Func.isWrapper; first | (rw [if_pos (by decide +kernel)]; kernel_rfl) | (rw [if_neg (by decide +kernel)]; exact ⟨rfl, rfl⟩))
  (fun os started H enc _ => TopLevels_lifted os started H enc)
#print axioms TopLevels_holds
end Go.Proofs.YtihggjgakbgomaaGreat
