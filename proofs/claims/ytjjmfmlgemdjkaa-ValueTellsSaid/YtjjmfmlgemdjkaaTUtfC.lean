/- The contracts of utf.Bad, Count, Chars and Prefix. -/
import Derived.Test.YtjjmfmlgemdjkaaTUtfA
namespace Go.Proofs.Ytjjmfmlgemdjkaa
open Go.RowKit

theorem bad_any (s : ByteArray) (hs : s.size ≤ 1000000) (w : World) :
    Calls Try.prog 28 #[.string s] w fun e w' => e = .returned (.int .i64 (badU s)) ∧ Below w.heap.size w w' := by
  have hE := each_bad s hs
  go_enter Try.func28, Try.ntmps28
  go_wp2_with fail
  refine (hE _).mono ?_
  rintro e w1 ⟨rfl, hb1⟩
  go_wp2
  go_ret
  exact ⟨rfl, hb1⟩

end Go.Proofs.Ytjjmfmlgemdjkaa

