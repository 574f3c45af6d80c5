/- The contracts of the closures that utf hands to each. -/
import Derived.Test.YtjjmfmlgemdjkaaProg
import Derived.WalkKit
import Derived.KernelRfl
import Derived.Lib.Hide
import Derived.BigRegion
import Derived.Laws.BytesArg
import Derived.Lib.QuietBelow
import Derived.Test.YtjjmfmlgemdjkaaTUtfPlain
import Derived.WalkSmall
import Derived.Lib.OthersKept
import Derived.RangeFuncBox
namespace Go.Proofs.Ytjjmfmlgemdjkaa
open Go.RowKit

theorem nop_any (c : Int) (w : World) : Calls Try.prog 62 #[.int .i64 c] w fun e w' => e = .returned (.tuple #[]) ∧ w = w' := by
  go_enter Try.func62, Try.ntmps62
  go_wp2
  go_end0
  exact ⟨rfl, rfl⟩

end Go.Proofs.Ytjjmfmlgemdjkaa

