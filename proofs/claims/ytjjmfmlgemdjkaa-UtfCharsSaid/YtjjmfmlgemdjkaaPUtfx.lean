-- PRINTED by print.py (a twelfth state) out of the translation. Not trusted: Lean checks it.
import Derived.Test.YtjjmfmlgemdjkaaPUtfx0
import Derived.Test.YtjjmfmlgemdjkaaPUtfx1
import Derived.Test.YtjjmfmlgemdjkaaPUtfx2
import Derived.Test.YtjjmfmlgemdjkaaPUtfx3
import Derived.Test.YtjjmfmlgemdjkaaPUtfx4
import Derived.Test.YtjjmfmlgemdjkaaPUtfx5
namespace Go.Proofs.Ytjjmfmlgemdjkaa.PUtf
open Go.RowKit Go.Proofs.YtjjmfmlgemdjkaaW.PrintWords Go.Proofs.YtjjmfmlgemdjkaaW.PrintLast Go.Proofs.YtjjmfmlgemdjkaaW.PrintMore
attribute [local go_sem] max2_int min2_int max_two min_two max_three min_three max_four min_four   -- for this text's walks alone
set_option linter.unusedVariables false
set_option linter.unusedSimpArgs false

end Go.Proofs.Ytjjmfmlgemdjkaa.PUtf
