/- The law UtfChars, out of what its functions tell. -/
import Derived.Test.YtjjmfmlgemdjkaaUtfQ
import Derived.Test.YtjjmfmlgemdjkaaPureUtfBack
namespace Go.Proofs.Ytjjmfmlgemdjkaa.Pure
open Go.RowKit Go.Proofs.Ytjjmfmlgemdjkaa.PUtf Go.Proofs.YtjjmfmlgemdjkaaW.PrintWords Go.Proofs.YtjjmfmlgemdjkaaW.PrintLast Go.Proofs.YtjjmfmlgemdjkaaW.PrintMore

theorem UtfChars : phalaropelaw01_UtfChars.Pure := by
  intro s m hs hm
  refine ⟨2045, ?_⟩
  unfold phalaropelaw01_UtfChars.f
  rw [awake, Option.bind_some]
  by_cases h1 : (s.size : Int) > 2000
  · rw [if_pos h1]
  have hs2 : s.size ≤ 2000 := by omega
  have hcl := charsU_len s
  have hc : phalaroperef01_Chars.f 2045 s = utf_Chars.f s := by
    unfold phalaroperef01_Chars.f
    rw [begin_ref s hs2 2045 (by omega), Option.bind_some]
    by_cases hv : badU s = s.size
    · rw [chars_bad s (by omega) hv, if_pos (by simp only; omega)]
    · rw [chars_not s (by omega) hv, if_neg (by simp only; omega)]
  have hch : ∃ l, utf_Chars.f s = some (l, decide (badU s = s.size)) ∧ l.length ≤ 2000 := by
    by_cases hv : badU s = s.size
    · exact ⟨_, by rw [chars_bad s (by omega) hv, decide_eq_true hv], by rw [List.length_map]; omega⟩
    · exact ⟨_, by rw [chars_not s (by omega) hv, decide_eq_false hv], by simp⟩
  obtain ⟨l, hl, hll⟩ := hch
  rw [if_neg h1, hc, hl, Option.bind_some, Option.bind_some, begin_ref s hs2 2045 (by omega), Option.bind_some, if_pos rfl, beq_self_eq_true, if_pos rfl, same_self l (by omega) 2045 (by omega), Option.bind_some, if_pos rfl]
  rw [valid s (by omega), Option.bind_some, beq_self_eq_true, if_pos rfl, bad s (by omega), Option.bind_some, if_pos rfl, count s (by omega), Option.bind_some, List.length_map, if_pos rfl, prefx s m (by omega), Option.bind_some, prefix_ref s hs2 m 2045 (by omega), Option.bind_some, beq_self_eq_true]

end Go.Proofs.Ytjjmfmlgemdjkaa.Pure
