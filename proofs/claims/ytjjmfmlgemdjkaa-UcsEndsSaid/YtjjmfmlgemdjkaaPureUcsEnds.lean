/- The law UcsEnds, out of what its functions tell. -/
import Derived.Test.YtjjmfmlgemdjkaaPureUcsPlanes
import Derived.Test.YtjjmfmlgemdjkaaPUcsx8
namespace Go.Proofs.Ytjjmfmlgemdjkaa.Pure
open Go.RowKit Go.Proofs.Ytjjmfmlgemdjkaa.PUcs Go.Proofs.YtjjmfmlgemdjkaaW.PrintWords Go.Proofs.YtjjmfmlgemdjkaaW.PrintLast Go.Proofs.YtjjmfmlgemdjkaaW.PrintMore

theorem may_yes {c : Int} (h : MayP c) : mayB c = true := mayB_true.2 h
theorem may_no {c : Int} (h : ¬ MayP c) : mayB c = false := by rw [← Bool.not_eq_true, mayB_true]; exact h
set_option maxHeartbeats 2000000 in
theorem UcsEnds : phalaropelaw04_UcsEnds.Pure := by
  intro c hc
  have hc' : -9223372036854775808 ≤ c ∧ c ≤ 9223372036854775807 := by
    simp [Lit.wf, IntKind.min, IntKind.max, IntKind.signed, IntKind.bits] at hc
    omega
  refine ⟨20, ?_⟩
  unfold phalaropelaw04_UcsEnds.f
  rw [awake4 20 (by omega), Option.bind_some]
  simp only [may_ucs, Option.bind_some, if_true]
  by_cases h1 : c = 55295
  · subst h1
    rw [if_pos rfl, may_yes (c := 55295) (by unfold MayP; omega), may_no (c := wrap64 (55295 + 1)) (by unfold MayP wrap64; omega)]
    rfl
  rw [if_neg h1]
  by_cases h2 : c = 64975
  · subst h2
    rw [if_pos rfl, may_yes (c := 64975) (by unfold MayP; omega), may_no (c := wrap64 (64975 + 1)) (by unfold MayP wrap64; omega)]
    rfl
  rw [if_neg h2]
  by_cases h3 : c = 65519
  · subst h3
    rw [if_pos rfl, may_yes (c := 65519) (by unfold MayP; omega), may_no (c := wrap64 (65519 + 1)) (by unfold MayP wrap64; omega)]
    rfl
  rw [if_neg h3]
  have hw : wrap64 (c + 1) = c + 1 ∨ (c = 9223372036854775807 ∧ wrap64 (c + 1) = -9223372036854775808) := by unfold wrap64; omega
  generalize wrap64 (c + 1) = d at hw
  by_cases hm : MayP c
  · have h160 : decide (c < 160) = false := decide_eq_false (by unfold MayP at hm; omega)
    rw [may_yes hm, h160]
    obtain rfl : d = c + 1 := by unfold MayP at hm; omega
    by_cases h4 : c ≥ 65536
    · have e : Int.tmod c 65536 = c % 65536 := Int.tmod_eq_emod_of_nonneg (by omega)
      rw [if_pos h4, if_pos (show c ≤ 1114109 by unfold MayP at hm; omega), if_pos rfl, e]
      by_cases h5 : c % 65536 = 65533
      · rw [h5, may_no (c := c + 1) (by unfold MayP; omega)]
        rfl
      · have : MayP (c + 1) := by unfold MayP at hm ⊢; omega
        rw [may_yes this, show (c % 65536 == 65533) = false from beq_eq_false_iff_ne.2 h5]
        rfl
    · have : MayP (c + 1) := by unfold MayP at hm ⊢; omega
      rw [if_neg h4, if_pos rfl, may_yes this]
      rfl
  · rw [may_no hm]
    by_cases h4 : c ≥ 65536
    · rw [if_pos h4]
      by_cases h5 : c ≤ 1114109
      · have e : Int.tmod c 65536 = c % 65536 := Int.tmod_eq_emod_of_nonneg (by omega)
        rw [if_pos h5, e]
        rw [show (c % 65536 == 65533) = false from beq_eq_false_iff_ne.2 (by unfold MayP at hm; omega)]
        rfl
      · rw [if_neg h5]
        rfl
    · rw [if_neg h4]
      rfl
end Go.Proofs.Ytjjmfmlgemdjkaa.Pure
