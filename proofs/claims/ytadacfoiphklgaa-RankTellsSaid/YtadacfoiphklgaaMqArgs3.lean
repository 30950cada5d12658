/-
  Arguments: rows of three, of five, and whole numbers.
-/
import Derived.Test.YtadacfoiphklgaaMqArgs
import Derived.Test.YtadacfoiphklgaaMqMade
namespace Go.Proofs.Ytadacfoiphklgaa
open Go Go.Den Go.ChangeShapes Go.WideShapes Go.ChangeAt Go.RowKit

def r3Of : List Int → R3
  | [x, y, z] => (x, y, z)
  | _ => (0, 0, 0)
theorem r3Of_enc {r : List Int} (h : r.length = 3) : eR3 (r3Of r) = r.map (Value.int .i64) := by
  match r, h with
  | [x, y, z], _ => rfl
def i1Of : List Int → Int
  | [x] => x
  | _ => 0
theorem i1Of_enc {r : List Int} (h : r.length = 1) : eI (i1Of r) = r.map (Value.int .i64) := by
  match r, h with
  | [x], _ => rfl
set_option maxRecDepth 100000 in
theorem arg_r3 {H : Type} {enc : TypeId × Value → H} {W : World} {t b : Nat} {v : Value} {d : DataW H} {ps : List MemPlace} (ht : Try.prog.underlying t = some (.slice tArr3)) (hval : Value.okWide Try.prog W .any b t v) (h : DataW.Trod enc Try.prog W 0 (fun _ => true) true t v d ps) :
    ∃ (s : Sl) (xs : List R3), v = .slice s.b s.l s.c ∧ Rd W s 3 eR3 xs := by
  obtain ⟨s, rows, rfl, hr, hl⟩ := arg_rows (m := 3) ht (by kernel_rfl) (by kernel_rfl) hval h
  exact ⟨s, rows.map r3Of, rfl, hr.map r3Of fun r hr => r3Of_enc (hl r hr)⟩
set_option maxRecDepth 100000 in
theorem arg_is {H : Type} {enc : TypeId × Value → H} {W : World} {t b : Nat} {v : Value} {d : DataW H} {ps : List MemPlace} (ht : Try.prog.underlying t = some (.slice tInt)) (hval : Value.okWide Try.prog W .any b t v) (h : DataW.Trod enc Try.prog W 0 (fun _ => true) true t v d ps) :
    ∃ (s : Sl) (xs : List Int), v = .slice s.b s.l s.c ∧ Rd W s 1 eI xs := by
  obtain ⟨s, rows, rfl, hr, hl⟩ := arg_rows (m := 1) ht (by kernel_rfl) (by kernel_rfl) hval h
  exact ⟨s, rows.map i1Of, rfl, hr.map i1Of fun r hr => i1Of_enc (hl r hr)⟩
end Go.Proofs.Ytadacfoiphklgaa
