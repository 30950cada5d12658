import Derived.Test.YtjjgcimlmjnaeaaGreatA1
import Derived.Test.YtjjgcimlmjnaeaaGreatFBase
namespace Go.Proofs.YtjjgcimlmjnaeaaGreat
open Go Go.Den
set_option maxRecDepth 100000
end Go.Proofs.YtjjgcimlmjnaeaaGreat
