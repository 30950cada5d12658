import Derived.Test.YtljiijljeipdhaaGreatProg
import Derived.Test.YtljiijljeipdhaaGreatA1
namespace Go.Proofs.YtljiijljeipdhaaGreat
open Go Go.Den
theorem mixed : Tryz.prog.follows .mixedOrders = true := by kernel_rfl
end Go.Proofs.YtljiijljeipdhaaGreat
