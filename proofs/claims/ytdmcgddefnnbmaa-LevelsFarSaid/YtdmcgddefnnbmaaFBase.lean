import Derived.Test.YtdmcgddefnnbmaaProg
import Derived.Test.YtdmcgddefnnbmaaA1
namespace Go.Proofs.Ytdmcgddefnnbmaa
open Go Go.Den
theorem mixed : Try.prog.follows .mixedOrders = true := by kernel_rfl
end Go.Proofs.Ytdmcgddefnnbmaa
