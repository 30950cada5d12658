import Derived.Test.YtihggjgakbgomaaGreatRows
import Derived.Test.YtihggjgakbgomaaGreatQ6
namespace Go.Proofs.YtihggjgakbgomaaGreat
open Go Go.Den Go.ChangeShapes Go.WideShapes Go.ChangeAt Go.RowKit
set_option maxRecDepth 100000 in
theorem TopShuts_lifted (os : Os) (started : os.Started) (H : Type) (enc : TypeId × Value → H) :
  ReturnsInHanded {} Tryz.checked os 5 .any (Rows.topShutsSpec.pre6 enc Tryz.prog Tryz.f5 Rows.topShutsRow.domain false) (Rows.topShutsSpec.post enc Tryz.prog Tryz.f5 false true false false) := by
 refine law_lifted (C := Tryz.checked) gZ started (by kernel_rfl) Tryz.func5
  (ChangeSpec.witness6 (enc := enc) (C := Tryz.checked) false ⟨#[], #[.slice none 0 0, .slice none 0 0, .int .i64 0, .int .i64 0, .int .i64 0], []⟩ 8 (by kernel_rfl) (by kernel_rfl) (by kernel_rfl) (by kernel_rfl))
  rfl (fun ds h => ?_) (tb := 4) (by kernel_rfl) (by kernel_rfl) laid (of_decide_eq_true (by kernel_rfl)) ?_
 ·match ds, h with
  | [_, _, _, _, _], _ => rfl
 intro W oI args ds ps Se hA
 have Ou : ∀ (j : Nat) t v, Tryz.f5.params[j]? = some t → args[j]? = some v → Value.okWide Tryz.prog W .any oI t v := Se
 have hA' : DataW.TrodAll enc Tryz.prog W 0 (fun _ => true) true Tryz.f5.params.toList args.toList ds ps := hA
 rw [show Tryz.f5.params = #[22, 72, 3, 3, 3] by kernel_rfl] at hA' Ou
 obtain ⟨v0, vs0, d0, ds0, p0, q0, hargs, rfl, rfl, h0, r0⟩ := trodAll_cons hA'
 obtain ⟨v1, vs1, d1, ds1, p1, q1, rfl, rfl, rfl, h1, r1⟩ := trodAll_cons r0
 obtain ⟨v2, vs2, d2, ds2, p2, q2, rfl, rfl, rfl, h2, r2⟩ := trodAll_cons r1
 obtain ⟨v3, vs3, d3, ds3, p3, q3, rfl, rfl, rfl, h3, r3⟩ := trodAll_cons r2
 obtain ⟨v4, vs4, d4, ds4, p4, q4, rfl, rfl, rfl, h4, r4⟩ := trodAll_cons r3
 obtain ⟨rfl, rfl, rfl⟩ := trodAll_nil r4
 obtain rfl : args = #[v0, v1, v2, v3, v4] := by cases args; simp_all
 obtain ⟨s0, xs0, rfl, hs0⟩ := arg_is (t := 22) (by kernel_rfl) (Ou 0 22 v0 rfl rfl) h0
 obtain ⟨s1, xs1, rfl, wZ⟩ := arg_p2 (t := 72) (by kernel_rfl) (Ou 1 72 v1 rfl rfl) h1
 obtain ⟨n2, rfl, _, _, _⟩ := open_int (t := 3) (k := .i64) (by kernel_rfl) (Ou 2 3 v2 rfl rfl) h2
 obtain ⟨n3, rfl, _, _, _⟩ := open_int (t := 3) (k := .i64) (by kernel_rfl) (Ou 3 3 v3 rfl rfl) h3
 obtain ⟨n4, rfl, _, _, _⟩ := open_int (t := 3) (k := .i64) (by kernel_rfl) (Ou 4 3 v4 rfl rfl) h4
 refine call_of Lg (args := [.slice s0.b s0.l s0.c, .slice s1.b s1.l s1.c, .int .i64 n2, .int .i64 n3, .int .i64 n4]) ?_
 exact gV (ks := [.c .slice, .c .slice, .c (.int .i64), .c (.int .i64), .c (.int .i64)]) (t := (s0, s1, n2, n3, n4, ())) (su hs0 wZ fun w' h => ⟨rfl, h.wk⟩)
theorem TopShuts_holds : Rows.TopShutsSaid :=
 OpenClaim.holds_of_wide 5 Tryz.f5 rfl rfl rfl rfl rfl rfl rfl ⟨rfl, rfl, rfl, rfl, rfl⟩ rfl rfl rfl rfl rfl (by kernel_rfl) Tryz.func5 (by kernel_rfl)
  (of_decide_eq_true (by kernel_rfl)) (by unfold Func.isWrapper; first | (rw [if_pos (by decide +kernel)]; kernel_rfl) | (rw [if_neg (by decide +kernel)]; exact ⟨rfl, rfl⟩))
  (fun os started H enc _ => TopShuts_lifted os started H enc)
#print axioms TopShuts_holds
end Go.Proofs.YtihggjgakbgomaaGreat
