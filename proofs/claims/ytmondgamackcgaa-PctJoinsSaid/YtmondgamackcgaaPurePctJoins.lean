/- The law PctJoins, out of what its functions tell. -/
import Derived.Test.YtmondgamackcgaaPctO
import Derived.Test.YtmondgamackcgaaPPctx4
import Derived.Test.YtmondgamackcgaaPPctx5
namespace Go.Proofs.Ytmondgamackcgaa.Pure
open Go.RowKit Go.Proofs.Ytmondgamackcgaa.PPct Go.Proofs.YtmondgamackcgaaW.PrintWords Go.Proofs.YtmondgamackcgaaW.PrintLast Go.Proofs.YtmondgamackcgaaW.PrintMore

theorem dec_len (l : List Nat) : (decL 0 l).1.length ≤ l.length := by
  refine trip_ind (P := fun l => (decL 0 l).1.length ≤ l.length) (Nat.le_refl _) ?_ ?_ l
  · intro a b r v ht ih
    rw [dec_trip ht]
    show (v :: (decL 0 r).1).length ≤ _
    simp
    omega
  · intro c r ht ih
    rw [dec_other ht]
    simp
    omega
theorem PctJoins : phalaropelaw03_PctJoins.Pure := by
  intro a b _ _
  refine ⟨0 + 1, ?_⟩
  unfold phalaropelaw03_PctJoins.f
  rw [awake3, Option.bind_some]
  by_cases h1 : (a.size : Int) > 2000
  · rw [if_pos h1, phalaropelaw03_PctJoins.j0, if_pos rfl]
  rw [if_neg h1]
  by_cases h2 : (b.size : Int) > 2000
  · rw [decide_eq_true h2, phalaropelaw03_PctJoins.j0, if_pos rfl]
  have hab : (a ++ b).size = a.size + b.size := ByteArray.size_append
  have ea := enc_size a false
  have eb := enc_size b false
  have hE : (bytesN (encL false (nats (a ++ b)))).toList = (bytesN (encL false (nats a)) ++ bytesN (encL false (nats b))).toList := by
    rw [toList_nats, enc_nats (a ++ b) false, nats_append (bytesN (encL false (nats a))), enc_nats, enc_nats, nats_append a b, enc_join]
  rw [decide_eq_false h2, phalaropelaw03_PctJoins.j0, if_neg (by decide), dec_f a (by omega), Option.bind_some, dec_f b (by omega), Option.bind_some, if_pos (by omega), dec_f (a ++ b) (by omega), Option.bind_some, if_pos rfl, enc_f (a ++ b) false (by omega), Option.bind_some, enc_f a false (by omega), Option.bind_some, enc_f b false (by omega), Option.bind_some, if_pos (by omega), if_pos hE]
  by_cases ha : (decL 0 (nats a)).2 = true
  · rw [DL_yes ha]
    by_cases hb : (decL 0 (nats b)).2 = true
    · have hj := dec_join (nats b) (nats a) ha
      rw [← nats_append] at hj
      have hjt : (decL 0 (nats (a ++ b))).2 = true := by rw [hj]; exact hb
      rw [DL_yes hb, DL_yes hjt]
      have la := dec_len (nats a)
      have lb := dec_len (nats b)
      rw [nats_len] at la lb
      have hZ : (bytesN (decL 0 (nats (a ++ b))).1).toList = (bytesN (decL 0 (nats a)).1 ++ bytesN (decL 0 (nats b)).1).toList := by
        rw [toList_nats, dec_nats (a ++ b), nats_append (bytesN (decL 0 (nats a)).1), dec_nats a, dec_nats b, hj]
      rw [if_pos rfl, if_pos rfl, if_pos rfl, if_pos (by rw [bytesN_size, bytesN_size]; omega)]
      show some ((bytesN (decL 0 (nats (a ++ b))).1).toList == (bytesN (decL 0 (nats a)).1 ++ bytesN (decL 0 (nats b)).1).toList) = some true
      rw [hZ]
      simp
    · rw [DL_no hb]
      rfl
  · rw [DL_no ha]
    rfl
end Go.Proofs.Ytmondgamackcgaa.Pure
