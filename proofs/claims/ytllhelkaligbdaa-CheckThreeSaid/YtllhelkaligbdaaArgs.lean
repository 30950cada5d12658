/-
  The words that each of the seat's proofs opens with.
-/
import Derived.Test.YtllhelkaligbdaaT
import Derived.Test.YtllhelkaligbdaaMpRow
namespace Go.Proofs.Ytllhelkaligbdaa
open Go Go.Den Go.ChangeShapes Go.WideShapes Go.ChangeAt Go.RowKit

theorem own : ownKnob Try.prog.godebug = none := by kernel_rfl
theorem laid : laidOutB Try.prog = true := by kernel_rfl

/-- Bytes that came in. -/
theorem to_bytes {W : World} {s : Sl} {zs : List Int} (h : Rd W s 1 (fun n => [Value.int .u8 n]) zs) (hw : ∀ n ∈ zs, (Lit.int .u8 n).wf = true) : Rd W s 1 eB (zs.map (BitVec.ofInt 8)) := by
  refine ⟨by rw [List.length_map]; exact h.len, h.cap, fun i x hx => ?_⟩
  rw [List.getElem?_map] at hx
  cases hz : zs[i]? with
  | none => rw [hz] at hx; cases hx
  | some n =>
    rw [hz] at hx
    cases hx
    obtain ⟨a, ha, hh⟩ := h.get i n hz
    refine ⟨a, ha, ?_⟩
    have hr : 0 ≤ n ∧ n ≤ 255 := by simpa [Lit.wf, IntKind.min, IntKind.max, IntKind.signed, IntKind.bits] using hw n (List.mem_of_getElem? hz)
    have : (((BitVec.ofInt 8 n).toNat : Nat) : Int) = n := by
      rw [BitVec.toNat_ofInt]; omega
    show HoldsAt W _ 0 [Value.int .u8 (((BitVec.ofInt 8 n).toNat : Nat) : Int)]
    rw [this]; exact hh

theorem call_of {g : FuncId} {T : Tr} (hS : Sound Try.prog g T) {args : List Value} {W : World} (h : T args W fun v w' => v = .bool true ∧ Since W w') : Calls Try.prog g args.toArray W fun e w' => e = .returned (.bool true) ∧ Since W w' :=
  (hS args W _ h).mono fun e w' ⟨v, he, hv, hs⟩ => ⟨by rw [he, hv], hs⟩

end Go.Proofs.Ytllhelkaligbdaa
