/-
  Of any bytes, in whatever parts, the sum is as the document says: the given statement 'CheckTells', without any condition.
-/
import Derived.Test.YtllhelkaligbdaaRows
import Derived.Test.YtllhelkaligbdaaT
import Derived.Test.YtllhelkaligbdaaMpRow
namespace Go.Proofs.Ytllhelkaligbdaa
open Go Go.Den Go.ChangeShapes Go.WideShapes Go.ChangeAt Go.RowKit

theorem own : ownKnob Try.prog.godebug = none := by kernel_rfl
theorem laid : laidOutB Try.prog = true := by kernel_rfl

/-- Bytes that came in. -/
theorem to_bytes {W : World} {s : Sl} {zs : List Int} (h : Rd W s 1 (fun n => [Value.int .u8 n]) zs) (hw : ∀ n ∈ zs, (Lit.int .u8 n).wf = true) : Rd W s 1 eB (zs.map (BitVec.ofInt 8)) := by
  refine ⟨by rw [List.length_map]; exact h.len, h.cap, fun i x hx => ?_⟩
  rw [List.getElem?_map] at hx
  cases hz : zs[i]? with
  | none => rw [hz] at hx; cases hx
  | some n =>
    rw [hz] at hx
    cases hx
    obtain ⟨a, ha, hh⟩ := h.get i n hz
    refine ⟨a, ha, ?_⟩
    have hr : 0 ≤ n ∧ n ≤ 255 := by simpa [Lit.wf, IntKind.min, IntKind.max, IntKind.signed, IntKind.bits] using hw n (List.mem_of_getElem? hz)
    have : (((BitVec.ofInt 8 n).toNat : Nat) : Int) = n := by
      rw [BitVec.toNat_ofInt]; omega
    show HoldsAt W _ 0 [Value.int .u8 (((BitVec.ofInt 8 n).toNat : Nat) : Int)]
    rw [this]; exact hh

theorem call_of {g : FuncId} {T : Tr} (hS : Sound Try.prog g T) {args : List Value} {W : World} (h : T args W fun v w' => v = .bool true ∧ Since W w') : Calls Try.prog g args.toArray W fun e w' => e = .returned (.bool true) ∧ Since W w' :=
  (hS args W _ h).mono fun e w' ⟨v, he, hv, hs⟩ => ⟨by rw [he, hv], hs⟩

set_option maxRecDepth 100000 in
theorem CheckTells_lifted (os : Os) (started : os.Started) (H : Type) (enc : TypeId × Value → H) :
    ReturnsInHanded {} Try.checked os 3 .any (Rows.checkTellsSpec.pre6 enc Try.prog Try.f3 Rows.checkTellsRow.domain false) (Rows.checkTellsSpec.post enc Try.prog Try.f3 false true false false) := by
  refine law_lifted (C := Try.checked) own started (by kernel_rfl) Try.func3
    (ChangeSpec.witness6 (enc := enc) (C := Try.checked) false ⟨#[], #[.slice none 0 0, .slice none 0 0], []⟩ 8 (by kernel_rfl) (by kernel_rfl) (by kernel_rfl) (by kernel_rfl))
    rfl (fun ds h => ?_) (tb := 4) (by kernel_rfl) (by kernel_rfl) laid (of_decide_eq_true (by kernel_rfl)) ?_
  · match ds, h with
    | [d1, d2], _ => rfl
  intro W base args ds ps hval hA
  have hval' : ∀ (j : Nat) t v, Try.f3.params[j]? = some t → args[j]? = some v → Value.okWide Try.prog W .any base t v := hval
  have hA' : DataW.TrodAll enc Try.prog W 0 (fun _ => true) true Try.f3.params.toList args.toList ds ps := hA
  rw [show Try.f3.params = #[22, 23] by kernel_rfl] at hA' hval'
  obtain ⟨v0, vs0, d0, ds0, p0, q0, hargs, rfl, rfl, h0, r0⟩ := trodAll_cons hA'
  obtain ⟨v1, vs1, d1, ds1, p1, q1, rfl, rfl, rfl, h1, r1⟩ := trodAll_cons r0
  obtain ⟨rfl, rfl, rfl⟩ := trodAll_nil r1
  obtain rfl : args = #[v0, v1] := by cases args; simp_all
  obtain ⟨s, zs, rfl, hs, hw, _⟩ := arg_ints elem22.under (by kernel_rfl) (by kernel_rfl) (hval' 0 22 v0 rfl rfl) h0
  obtain ⟨c, cs, rfl, hc, _, _⟩ := arg_ints (t := 23) (e := 3) (k := .i64) (by kernel_rfl) (by kernel_rfl) (by kernel_rfl) (hval' 1 23 v1 rfl rfl) h1
  refine call_of S_law2_CheckTells (args := [.slice s.b s.l s.c, .slice c.b c.l c.c]) ?_
  exact decK_intro (ks := [.c .slice, .c .slice]) (t := (s, c, ())) (CheckTells_i (to_bytes hs hw) hc fun w' h => ⟨rfl, h⟩)

theorem CheckTells_holds : Rows.CheckTellsSaid :=
  OpenClaim.holds_of_wide 3 Try.f3 rfl rfl rfl rfl rfl rfl rfl ⟨rfl, rfl, rfl, rfl, rfl⟩ rfl rfl rfl rfl rfl (by kernel_rfl) Try.func3 (by kernel_rfl)
    (of_decide_eq_true (by kernel_rfl)) (by unfold Func.isWrapper; first | (rw [if_pos (by decide +kernel)]; kernel_rfl) | (rw [if_neg (by decide +kernel)]; exact ⟨rfl, rfl⟩))
    (fun os started H enc _ => CheckTells_lifted os started H enc)
#print axioms CheckTells_holds
end Go.Proofs.Ytllhelkaligbdaa
