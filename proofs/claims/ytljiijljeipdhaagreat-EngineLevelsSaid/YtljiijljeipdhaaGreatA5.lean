/-
  Arguments that are slices of bools.
-/
import Derived.Test.YtljiijljeipdhaaGreatA4
namespace Go.Den
open Go Go.ChangeShapes Go.WideShapes Go.ChangeAt Go.RowKit Go.Deep

section
variable {H : Type} {enc : TypeId × Value → H} {P : Program} {w : World}
end
end Go.Den

/-
  Arguments that are slices of anything: their elements' cells; slices of slices of whole numbers.
-/
namespace Go.Den
open Go Go.ChangeShapes Go.WideShapes Go.ChangeAt Go.RowKit Go.Deep

section
variable {H : Type} {enc : TypeId × Value → H} {P : Program} {w : World}
end
end Go.Den
