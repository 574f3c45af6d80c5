/- The law UtfText, out of what its functions tell. -/
import Derived.Test.YtjjmfmlgemdjkaaUtfP
namespace Go.Proofs.Ytjjmfmlgemdjkaa.Pure
open Go.RowKit Go.Proofs.Ytjjmfmlgemdjkaa.PUtf Go.Proofs.YtjjmfmlgemdjkaaW.PrintWords Go.Proofs.YtjjmfmlgemdjkaaW.PrintLast Go.Proofs.YtjjmfmlgemdjkaaW.PrintMore

theorem UtfText : phalaropelaw01_UtfText.Pure := by
  intro l a hl1 hl2 hl3 ha
  refine ⟨506, ?_⟩
  unfold phalaropelaw01_UtfText.f
  rw [awake, Option.bind_some]
  by_cases h1 : (l.length : Int) > 500
  · rw [if_pos h1]
  rw [if_neg h1, text l (by omega), text_ref l (by omega) 506 (by omega), Option.bind_some, Option.bind_some, if_pos rfl, beq_self_eq_true, if_pos rfl, if_pos rfl, may_utf, may_ref, Option.bind_some, Option.bind_some, beq_self_eq_true]

end Go.Proofs.Ytjjmfmlgemdjkaa.Pure
