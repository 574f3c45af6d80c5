/- The law UtfJoins, out of what its functions tell. -/
import Derived.Test.YtjjmfmlgemdjkaaUtfO
namespace Go.Proofs.Ytjjmfmlgemdjkaa.Pure
open Go.RowKit Go.Proofs.Ytjjmfmlgemdjkaa.PUtf Go.Proofs.YtjjmfmlgemdjkaaW.PrintWords Go.Proofs.YtjjmfmlgemdjkaaW.PrintLast Go.Proofs.YtjjmfmlgemdjkaaW.PrintMore

theorem joins0 (k : Nat) (a b : ByteArray) : phalaropelaw01_UtfJoins.j0 (k + 1) a b true true = some true := by
  rw [phalaropelaw01_UtfJoins.j0]
  rw [if_pos rfl]
theorem joins1 (k : Nat) (a b : ByteArray) (h1 : a.size ≤ 2000) (h2 : b.size ≤ 2000) (hv : badU a = a.size) : phalaropelaw01_UtfJoins.j0 (k + 1) a b true false = some true := by
  have hs : (a ++ b).size = a.size + b.size := ByteArray.size_append
  obtain ⟨e1, e2⟩ := run_join (b := b) hv
  have l1 := charsU_len a
  have l2 := charsU_len b
  have l3 := badU_le b
  have e3 : decide (badU (a ++ b) = (a ++ b).size) = decide (badU b = b.size) := by
    rw [e2, hs]
    exact decide_eq_decide.2 (by omega)
  rw [phalaropelaw01_UtfJoins.j0]
  rw [if_neg (by decide), if_pos rfl, if_pos (by omega), valid (a ++ b) (by omega), valid b (by omega), Option.bind_some, Option.bind_some, e3, beq_self_eq_true, if_pos rfl, count (a ++ b) (by omega), count a (by omega), count b (by omega), Option.bind_some, Option.bind_some, Option.bind_some]
  rw [wrap_id (x := ((charsU a).length : Int) + ((charsU b).length : Int)) (by omega) (by omega), e1, List.length_append, if_pos (by omega), bad (a ++ b) (by omega), bad b (by omega), Option.bind_some, Option.bind_some]
  rw [wrap_id (x := (a.size : Int) + ((badU b : Nat) : Int)) (by omega) (by omega), e2, Int.natCast_add, beq_self_eq_true]
theorem UtfJoins : phalaropelaw01_UtfJoins.Pure := by
  intro a b ha hb
  refine ⟨0 + 1, ?_⟩
  unfold phalaropelaw01_UtfJoins.f
  rw [awake, Option.bind_some]
  by_cases h1 : (a.size : Int) > 2000
  · rw [if_pos h1]; exact joins0 0 a b
  rw [if_neg h1]
  by_cases h2 : (b.size : Int) > 2000
  · rw [if_pos h2]; exact joins0 0 a b
  rw [if_neg h2, valid a (by omega), Option.bind_some]
  by_cases hv : badU a = a.size
  · rw [decide_eq_true hv]
    exact joins1 0 a b (by omega) (by omega) hv
  · rw [decide_eq_false hv]
    exact joins0 0 a b

end Go.Proofs.Ytjjmfmlgemdjkaa.Pure
