/-
  Arguments: bools.
-/
import Derived.Test.YtkdilapijegogaaQ5
import Derived.Test.YtkdilapijegogaaA4
namespace Go.Proofs.Ytkdilapijegogaa
open Go Go.Den Go.ChangeShapes Go.WideShapes Go.ChangeAt Go.RowKit
set_option maxRecDepth 100000 in
theorem arg_bs {H : Type} {enc : TypeId × Value → H} {W : World} {t b : Nat} {v : Value} {d : DataW H} {ps : List MemPlace} (ht : Try.prog.underlying t = some (.slice tBool)) (hval : Value.okWide Try.prog W .any b t v) (h : DataW.Trod enc Try.prog W 0 (fun _ => true) true t v d ps) :
    ∃ (s : Sl) (xs : List Bool), v = .slice s.b s.l s.c ∧ Rd W s 1 eB xs := arg_bools ht (by kernel_rfl) (by kernel_rfl) hval h
end Go.Proofs.Ytkdilapijegogaa
