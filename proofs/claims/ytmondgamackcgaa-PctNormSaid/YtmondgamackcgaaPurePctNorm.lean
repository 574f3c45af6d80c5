/- The law PctNorm, out of what its functions tell. -/
import Derived.Test.YtmondgamackcgaaPctO
import Derived.Test.YtmondgamackcgaaPPctx4
import Derived.Test.YtmondgamackcgaaPPctx5
namespace Go.Proofs.Ytmondgamackcgaa.Pure
open Go.RowKit Go.Proofs.Ytmondgamackcgaa.PPct Go.Proofs.YtmondgamackcgaaW.PrintWords Go.Proofs.YtmondgamackcgaaW.PrintLast Go.Proofs.YtmondgamackcgaaW.PrintMore

theorem PctNorm : phalaropelaw03_PctNorm.Pure := by
  intro s _
  unfold phalaropelaw03_PctNorm.f
  rw [awake3, Option.bind_some]
  by_cases h1 : (s.size : Int) > 2000
  · rw [if_pos h1]
  have hn := norm_size s
  have he := enc_size s false
  have hD : DL (normL 0 (nats s)) = DL (nats s) := by unfold DL; rw [dec_norm]
  rw [if_neg h1, norm_f s (by omega), Option.bind_some, dec_f s (by omega), Option.bind_some, dec_f _ (by omega), Option.bind_some, enc_f s false (by omega), Option.bind_some, if_pos rfl, if_pos (by rw [hn]), norm_f (bytesN (normL 0 (nats s))) (by omega), Option.bind_some, norm_nats, norm_norm, if_pos rfl, hD, if_pos (by simp), if_pos rfl, norm_f (bytesN (encL false (nats s))) (by omega), Option.bind_some, enc_nats, norm_enc _ (nats_byte s)]
  simp
end Go.Proofs.Ytmondgamackcgaa.Pure
