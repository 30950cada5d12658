import Derived.Test.YtlflndnfgeeieaaMpDenS
import Derived.Test.YtlflndnfgeeieaaProg
namespace Go.Proofs.Ytlflndnfgeeieaa
open Go Go.Den
theorem mixed : Try.prog.follows .mixedOrders = true := by kernel_rfl
end Go.Proofs.Ytlflndnfgeeieaa
