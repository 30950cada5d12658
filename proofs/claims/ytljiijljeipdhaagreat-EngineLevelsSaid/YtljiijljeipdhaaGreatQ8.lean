/-
  Arguments: bools.
-/
import Derived.Test.YtljiijljeipdhaaGreatQ7
import Derived.Test.YtljiijljeipdhaaGreatA5
namespace Go.Proofs.YtljiijljeipdhaaGreat
open Go Go.Den Go.ChangeShapes Go.WideShapes Go.ChangeAt Go.RowKit
end Go.Proofs.YtljiijljeipdhaaGreat
