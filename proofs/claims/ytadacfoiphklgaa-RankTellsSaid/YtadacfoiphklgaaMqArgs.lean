/-
  The words that each of the seat's proofs opens with.
-/
import Derived.Test.YtadacfoiphklgaaMqSlices
import Derived.Test.YtadacfoiphklgaaMpArg
namespace Go.Proofs.Ytadacfoiphklgaa
open Go Go.Den Go.ChangeShapes Go.WideShapes Go.ChangeAt Go.RowKit

theorem own : ownKnob Try.prog.godebug = none := by kernel_rfl
theorem laid : laidOutB Try.prog = true := by kernel_rfl
theorem call_of {g : FuncId} {T : Tr} (hS : Sound Try.prog g T) {args : List Value} {W : World} (h : T args W fun v w' => v = .bool true ∧ Since W w') : Calls Try.prog g args.toArray W fun e w' => e = .returned (.bool true) ∧ Since W w' :=
  (hS args W _ h).mono fun e w' ⟨v, he, hv, hs⟩ => ⟨by rw [he, hv], hs⟩
def arcOf : List Int → Arc
  | [f, t, w, m] => ⟨f, t, w, m⟩
  | _ => ⟨0, 0, 0, 0⟩
theorem arcOf_enc {r : List Int} (h : r.length = 4) : eArc (arcOf r) = r.map (Value.int .i64) := by
  match r, h with
  | [f, t, w, m], _ => rfl
set_option maxRecDepth 100000 in
theorem arg_arcs {H : Type} {enc : TypeId × Value → H} {W : World} {t b : Nat} {v : Value} {d : DataW H} {ps : List MemPlace} (ht : Try.prog.underlying t = some (.slice tArc)) (hval : Value.okWide Try.prog W .any b t v) (h : DataW.Trod enc Try.prog W 0 (fun _ => true) true t v d ps) :
    ∃ (s : Sl) (xs : List Arc), v = .slice s.b s.l s.c ∧ Rd W s 4 eArc xs := by
  obtain ⟨s, rows, rfl, hr, hl⟩ := arg_rows (m := 4) ht (by kernel_rfl) (by kernel_rfl) hval h
  exact ⟨s, rows.map arcOf, rfl, hr.map arcOf fun r hr => arcOf_enc (hl r hr)⟩
end Go.Proofs.Ytadacfoiphklgaa
