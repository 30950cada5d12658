import Derived.Test.YtkghlmaalkmdkaaProg
import Derived.Test.YtkghlmaalkmdkaaA1
namespace Go.Proofs.Ytkghlmaalkmdkaa
open Go Go.Den
theorem mixed : Try.prog.follows .mixedOrders = true := by kernel_rfl
end Go.Proofs.Ytkghlmaalkmdkaa
