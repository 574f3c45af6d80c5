/- The contracts of utf.May and Text. -/
import Derived.Test.YtjjmfmlgemdjkaaTUtfA
import Derived.WalkLawsBesides
namespace Go.Proofs.Ytjjmfmlgemdjkaa
open Go.RowKit

def mayI (c : Int) : Bool := decide (0 ≤ c) && decide (c ≤ 1114111) && (decide (c < 55296) || decide (57343 < c))
end Go.Proofs.Ytjjmfmlgemdjkaa

