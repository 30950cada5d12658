import Derived.Test.YtjjgcimlmjnaeaaGreatProg
import Derived.Test.YtjjgcimlmjnaeaaGreatA1
namespace Go.Proofs.YtjjgcimlmjnaeaaGreat
open Go Go.Den
theorem mixed : Tryz.prog.follows .mixedOrders = true := by kernel_rfl
end Go.Proofs.YtjjgcimlmjnaeaaGreat
