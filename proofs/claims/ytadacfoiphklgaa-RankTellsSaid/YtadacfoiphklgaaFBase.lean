import Derived.Test.YtadacfoiphklgaaMpDenS
import Derived.Test.YtadacfoiphklgaaProg
namespace Go.Proofs.Ytadacfoiphklgaa
open Go Go.Den
theorem mixed : Try.prog.follows .mixedOrders = true := by kernel_rfl
end Go.Proofs.Ytadacfoiphklgaa
