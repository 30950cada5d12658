import Derived.Test.YtelbklglflhleaaMpDenS
import Derived.Test.YtelbklglflhleaaProg
namespace Go.Proofs.Ytelbklglflhleaa
open Go Go.Den
theorem mixed : Try.prog.follows .mixedOrders = true := by kernel_rfl
end Go.Proofs.Ytelbklglflhleaa
