/-
  Noughts behind a row, or ahead of it, and rows of four bytes: the given statement 'CheckEnds', without any condition.
-/
import Derived.Test.YtllhelkaligbdaaRows
import Derived.Test.YtllhelkaligbdaaE
import Derived.Test.YtllhelkaligbdaaArgs
namespace Go.Proofs.Ytllhelkaligbdaa
open Go Go.Den Go.ChangeShapes Go.WideShapes Go.ChangeAt Go.RowKit

theorem word32 {n : Int} (hw : (Lit.int .u32 n).wf = true) : ∃ x : BitVec 32, n = (x.toNat : Int) := by
  have hr : 0 ≤ n ∧ n ≤ 4294967295 := by simpa [Lit.wf, IntKind.min, IntKind.max, IntKind.signed, IntKind.bits] using hw
  refine ⟨BitVec.ofInt 32 n, ?_⟩
  rw [BitVec.toNat_ofInt]; omega

set_option maxRecDepth 100000 in
theorem CheckEnds_lifted (os : Os) (started : os.Started) (H : Type) (enc : TypeId × Value → H) :
    ReturnsInHanded {} Try.checked os 6 .any (Rows.checkEndsSpec.pre6 enc Try.prog Try.f6 Rows.checkEndsRow.domain false) (Rows.checkEndsSpec.post enc Try.prog Try.f6 false true false false) := by
  refine law_lifted (C := Try.checked) own started (by kernel_rfl) Try.func6
    (ChangeSpec.witness6 (enc := enc) (C := Try.checked) false ⟨#[], #[.slice none 0 0, .int .i64 0, .int .u32 0, .int .u32 0], []⟩ 8 (by kernel_rfl) (by kernel_rfl) (by kernel_rfl) (by kernel_rfl))
    rfl (fun ds h => ?_) (tb := 4) (by kernel_rfl) (by kernel_rfl) laid (of_decide_eq_true (by kernel_rfl)) ?_
  · match ds, h with
    | [d1, d2, d3, d4], _ => rfl
  intro W base args ds ps hval hA
  have hval' : ∀ (j : Nat) t v, Try.f6.params[j]? = some t → args[j]? = some v → Value.okWide Try.prog W .any base t v := hval
  have hA' : DataW.TrodAll enc Try.prog W 0 (fun _ => true) true Try.f6.params.toList args.toList ds ps := hA
  rw [show Try.f6.params = #[22, 3, 27, 27] by kernel_rfl] at hA' hval'
  obtain ⟨v0, vs0, d0, ds0, p0, q0, hargs, rfl, rfl, h0, r0⟩ := trodAll_cons hA'
  obtain ⟨v1, vs1, d1, ds1, p1, q1, rfl, rfl, rfl, h1, r1⟩ := trodAll_cons r0
  obtain ⟨v2, vs2, d2, ds2, p2, q2, rfl, rfl, rfl, h2, r2⟩ := trodAll_cons r1
  obtain ⟨v3, vs3, d3, ds3, p3, q3, rfl, rfl, rfl, h3, r3⟩ := trodAll_cons r2
  obtain ⟨rfl, rfl, rfl⟩ := trodAll_nil r3
  obtain rfl : args = #[v0, v1, v2, v3] := by cases args; simp_all
  obtain ⟨s, zs, rfl, hs, hw, _⟩ := arg_ints elem22.under (by kernel_rfl) (by kernel_rfl) (hval' 0 22 v0 rfl rfl) h0
  obtain ⟨n, rfl, _, _, _⟩ := open_int (t := 3) (k := .i64) (by kernel_rfl) (hval' 1 3 v1 rfl rfl) h1
  obtain ⟨x, rfl, _, _, hx⟩ := open_int (t := 27) (k := .u32) (by kernel_rfl) (hval' 2 27 v2 rfl rfl) h2
  obtain ⟨y, rfl, _, _, hy⟩ := open_int (t := 27) (k := .u32) (by kernel_rfl) (hval' 3 27 v3 rfl rfl) h3
  obtain ⟨x, rfl⟩ := word32 hx
  obtain ⟨y, rfl⟩ := word32 hy
  refine call_of S_law2_CheckEnds (args := [.slice s.b s.l s.c, .int .i64 n, .int .u32 (x.toNat : Int), .int .u32 (y.toNat : Int)]) ?_
  exact decK_intro (ks := [.c .slice, .c (.int .i64), .c (.int .u32), .c (.int .u32)]) (t := (s, n, (x.toNat : Int), (y.toNat : Int), ())) (CheckEnds_i (to_bytes hs hw) fun w' h => ⟨rfl, h⟩)

theorem CheckEnds_holds : Rows.CheckEndsSaid :=
  OpenClaim.holds_of_wide 6 Try.f6 rfl rfl rfl rfl rfl rfl rfl ⟨rfl, rfl, rfl, rfl, rfl⟩ rfl rfl rfl rfl rfl (by kernel_rfl) Try.func6 (by kernel_rfl)
    (of_decide_eq_true (by kernel_rfl)) (by unfold Func.isWrapper; first | (rw [if_pos (by decide +kernel)]; kernel_rfl) | (rw [if_neg (by decide +kernel)]; exact ⟨rfl, rfl⟩))
    (fun os started H enc _ => CheckEnds_lifted os started H enc)
#print axioms CheckEnds_holds
end Go.Proofs.Ytllhelkaligbdaa
