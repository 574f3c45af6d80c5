/- The law UcsTells, out of what its functions tell. -/
import Derived.Test.YtjjmfmlgemdjkaaUcsR
namespace Go.Proofs.Ytjjmfmlgemdjkaa.Pure
open Go.RowKit Go.Proofs.Ytjjmfmlgemdjkaa.PUcs Go.Proofs.YtjjmfmlgemdjkaaW.PrintWords Go.Proofs.YtjjmfmlgemdjkaaW.PrintLast Go.Proofs.YtjjmfmlgemdjkaaW.PrintMore

theorem UcsTells : phalaropelaw04_UcsTells.Pure := by
  intro c s _ _
  refine ⟨2000050 + 2, ?_⟩
  generalize hk : 2000050 = k
  unfold phalaropelaw04_UcsTells.f
  rw [awake4 (k + 2) (by omega), Option.bind_some]
  by_cases h1 : (s.size : Int) > 1000
  · rw [if_pos h1]
  obtain ⟨p, hp1, hp2⟩ := take_both s (by omega) k (by omega)
  rw [if_neg h1, hp1, Option.bind_some, hp2, Option.bind_some, if_pos rfl, may_ucs, Option.bind_some, mayf_ref, Option.bind_some, if_pos (by simp), if_pos rfl, if_pos rfl, fits_ucs s (by omega) (k + 1), Option.bind_some, fits_ref s (by omega) (k + 2) (by omega), Option.bind_some]
  simp
end Go.Proofs.Ytjjmfmlgemdjkaa.Pure
