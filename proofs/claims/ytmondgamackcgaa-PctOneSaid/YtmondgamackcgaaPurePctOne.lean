/- The law PctOne, out of what its functions tell. -/
import Derived.Test.YtmondgamackcgaaPctO
import Derived.Test.YtmondgamackcgaaPPctx4
import Derived.Test.YtmondgamackcgaaPPctx5
namespace Go.Proofs.Ytmondgamackcgaa.Pure
open Go.RowKit Go.Proofs.Ytmondgamackcgaa.PPct Go.Proofs.YtmondgamackcgaaW.PrintWords Go.Proofs.YtmondgamackcgaaW.PrintLast Go.Proofs.YtmondgamackcgaaW.PrintMore

theorem PctOne : phalaropelaw03_PctOne.Pure := by
  intro a s ha _
  have ha' : 0 ≤ a ∧ a ≤ 255 := by
    simp [Lit.wf, IntKind.min, IntKind.max, IntKind.signed, IntKind.bits] at ha
    omega
  obtain ⟨c, rfl⟩ : ∃ c : Nat, a = (c : Int) := ⟨a.toNat, by omega⟩
  refine ⟨0 + 2, ?_⟩
  unfold phalaropelaw03_PctOne.f
  rw [awake3, Option.bind_some]
  by_cases h1 : (s.size : Int) > 2000
  · rw [if_pos h1]
  have hd : pct_Digit.f (c : Int) = some ((((digitU c).1 : Nat) : Int), (digitU c).2) := by unfold pct_Digit.f; rw [if_pos (by omega), Int.toNat_natCast]
  have ho : pct_One.f (c : Int) = some (bytesN (oneN c)) := by unfold pct_One.f; rw [if_pos (by omega), Int.toNat_natCast]
  have hr : phalaroperef03_One.f (c : Int) = some (bytesN (oneN c)) := by unfold phalaroperef03_One.f; rw [if_pos (by omega), Int.toNat_natCast]
  rw [if_neg h1, hd, Option.bind_some, digit3_f c (by omega) 0, Option.bind_some, if_pos rfl, if_pos rfl, if_pos (by simp), ho, Option.bind_some, hr, Option.bind_some, if_pos rfl, trip_f s (by omega), Option.bind_some, trip_ref, Option.bind_some]
  simp
end Go.Proofs.Ytmondgamackcgaa.Pure
