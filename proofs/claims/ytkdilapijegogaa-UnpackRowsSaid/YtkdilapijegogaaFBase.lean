import Derived.Test.YtkdilapijegogaaProg
import Derived.Test.YtkdilapijegogaaA1
namespace Go.Proofs.Ytkdilapijegogaa
open Go Go.Den
theorem mixed : Try.prog.follows .mixedOrders = true := by kernel_rfl
end Go.Proofs.Ytkdilapijegogaa
