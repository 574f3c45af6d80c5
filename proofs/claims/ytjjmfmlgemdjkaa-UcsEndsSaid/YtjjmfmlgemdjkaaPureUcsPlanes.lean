/- The law UcsPlanes, out of what its functions tell. -/
import Derived.Test.YtjjmfmlgemdjkaaUcsP
namespace Go.Proofs.Ytjjmfmlgemdjkaa.Pure
open Go.RowKit Go.Proofs.Ytjjmfmlgemdjkaa.PUcs Go.Proofs.YtjjmfmlgemdjkaaW.PrintWords Go.Proofs.YtjjmfmlgemdjkaaW.PrintLast Go.Proofs.YtjjmfmlgemdjkaaW.PrintMore

theorem awake4 (k : Nat) (h : 20 ≤ k) : phalaropelaw04_awake.f k = some true := by
  obtain ⟨j, rfl⟩ := Nat.exists_eq_add_of_le h
  exact more_rounds (g := fun k => phalaropelaw04_awake.f k) (fun k => phalaropelaw04_awake.mono k) 20 j true (by decide +kernel)
theorem may_is {c : Int} {b : Bool} (h : MayP c ↔ b = true) : mayB c = b := by
  rw [Bool.eq_iff_iff, mayB_true, h]
theorem UcsPlanes : phalaropelaw04_UcsPlanes.Pure := by
  intro a c ha hc
  have ha' : 0 ≤ a ∧ a ≤ 255 := by
    simp [Lit.wf, IntKind.min, IntKind.max, IntKind.signed, IntKind.bits] at ha
    omega
  have hc' : 0 ≤ c ∧ c ≤ 65535 := by
    simp [Lit.wf, IntKind.min, IntKind.max, IntKind.signed, IntKind.bits] at hc
    omega
  refine ⟨20, ?_⟩
  unfold phalaropelaw04_UcsPlanes.f
  have e1 : Int.tmod a 16 = a % 16 := Int.tmod_eq_emod_of_nonneg (by omega)
  have e2 : Int.tmod c 128 = c % 128 := Int.tmod_eq_emod_of_nonneg (by omega)
  have w1 : wrap64 c = c := wrap_id (by omega) (by omega)
  have w2 : wrap64 (a % 16) = a % 16 := wrap_id (by omega) (by omega)
  have w3 : wrap64 (1 + a % 16) = 1 + a % 16 := wrap_id (by omega) (by omega)
  have w4 : wrap64 (65536 * (1 + a % 16)) = 65536 * (1 + a % 16) := wrap_id (by omega) (by omega)
  have w5 : wrap64 (65536 * (1 + a % 16) + c) = 65536 * (1 + a % 16) + c := wrap_id (by omega) (by omega)
  have w6 : wrap64 (-c) = -c := wrap_id (by omega) (by omega)
  have m1 : mayB (c % 128) = false := may_is (by unfold MayP; constructor <;> intro h <;> first | omega | (cases h))
  have m2 : mayB (-c) = false := may_is (by unfold MayP; constructor <;> intro h <;> first | omega | (cases h))
  have m3 : mayB (65536 * (1 + a % 16) + c) = (decide (c ≤ 65533) && (decide (1 + a % 16 ≠ 14) || decide (c ≥ 4096))) := may_is (by unfold MayP; simp; omega)
  rw [awake4 20 (by omega), Option.bind_some, w1, e1, e2, w2, w3, w4, w5, w6, may_ucs, may_ucs, may_ucs, m1, m2, m3]
  simp only [Option.bind_some]
  by_cases h1 : c ≤ 65533
  · by_cases h2 : 1 + a % 16 = 14
    · simp [h1, h2]
    · simp [h1, h2]
  · simp [h1]
end Go.Proofs.Ytjjmfmlgemdjkaa.Pure
