/- The law UcsCut, out of what its functions tell. -/
import Derived.Test.YtjjmfmlgemdjkaaPureUcsPlanes
namespace Go.Proofs.Ytjjmfmlgemdjkaa.Pure
open Go.RowKit Go.Proofs.Ytjjmfmlgemdjkaa.PUcs Go.Proofs.YtjjmfmlgemdjkaaW.PrintWords Go.Proofs.YtjjmfmlgemdjkaaW.PrintLast Go.Proofs.YtjjmfmlgemdjkaaW.PrintMore

theorem u8_is {x : Int} (h : (Lit.int .u8 x).wf = true) : 0 ≤ x ∧ x ≤ 255 := by
  simp [Lit.wf, IntKind.min, IntKind.max, IntKind.signed, IntKind.bits] at h
  omega
theorem fits_take {l : List Nat} (h : fitsP l) (n : Nat) (hn : 1 ≤ n) : fitsP (l.take n) := by
  obtain ⟨h0, c, hc, hp⟩ := h
  refine ⟨?_, c, hc, (List.take_prefix n l).trans hp⟩
  cases l with
  | nil => exact absurd rfl h0
  | cons a r =>
    obtain ⟨m, rfl⟩ : ∃ m, n = m + 1 := ⟨n - 1, by omega⟩
    simp
theorem fits_more {l r : List Nat} (h : fitsP (l ++ r)) (h0 : l ≠ []) : fitsP l := by
  obtain ⟨_, c, hc, hp⟩ := h
  exact ⟨h0, c, hc, (List.prefix_append l r).trans hp⟩
theorem UcsCut : phalaropelaw04_UcsCut.Pure := by
  intro s more cut hs hm hc
  obtain ⟨m0, m1⟩ := u8_is hm
  obtain ⟨c0, c1⟩ := u8_is hc
  refine ⟨20 + 1, ?_⟩
  unfold phalaropelaw04_UcsCut.f
  rw [awake4 (20 + 1) (by omega), Option.bind_some]
  by_cases h0 : (s.size : Int) = 0
  · rw [if_pos h0, phalaropelaw04_UcsCut.j0, if_pos rfl]
  rw [if_neg h0]
  by_cases h1 : (s.size : Int) > 1000
  · rw [decide_eq_true h1, phalaropelaw04_UcsCut.j0, if_pos rfl]
  have hne : nats s ≠ [] := by
    intro h
    have := congrArg List.length h
    rw [nats_len, List.length_nil] at this
    omega
  rw [decide_eq_false h1, phalaropelaw04_UcsCut.j0, if_neg (by decide), fits_ucs s (by omega) 19, Option.bind_some]
  by_cases hf : fitsP (nats s)
  · have hl := fits_len hf
    rw [nats_len] at hl
    rw [if_pos (fitsB_true.2 hf), if_pos rfl, if_neg h0]
    have e1 : wrap64 cut = cut := wrap_id (by omega) (by omega)
    have e2 : Int.tmod cut (s.size : Int) = cut % (s.size : Int) := Int.tmod_eq_emod_of_nonneg c0
    have hr0 : 0 ≤ cut % (s.size : Int) := Int.emod_nonneg _ h0
    have hr1 : cut % (s.size : Int) < (s.size : Int) := Int.emod_lt_of_pos _ (by omega)
    have e3 : wrap64 (1 + cut % (s.size : Int)) = 1 + cut % (s.size : Int) := wrap_id (by omega) (by omega)
    have hx : (s.extract 0 (1 + cut % (s.size : Int)).toNat).size ≤ 1000000 := by rw [ByteArray.size_extract]; omega
    have hft : fitsP (nats (s.extract 0 (1 + cut % (s.size : Int)).toNat)) := by
      rw [nats_extract, List.drop_zero, Nat.sub_zero]
      exact fits_take hf _ (by omega)
    rw [e1, e2, e3, if_pos (by omega), if_pos (by omega), fits_ucs _ hx 19, Option.bind_some, if_pos (fitsB_true.2 hft), decide_eq_true (by omega)]
  · have hb : fitsB (nats s) = false := by rw [← Bool.not_eq_true, fitsB_true]; exact hf
    have hsz : (strOfNums [more]).size = 1 := strOfNums_size _
    have hno : fitsB (nats (s ++ strOfNums [more])) = false := by
      rw [← Bool.not_eq_true, fitsB_true, nats_append]
      exact fun h => hf (fits_more h hne)
    have hx : (s ++ strOfNums [more]).size ≤ 1000000 := by rw [ByteArray.size_append, hsz]; omega
    rw [hb, if_neg (by decide), if_pos rfl, Option.bind_some, hsz, if_pos (by omega), fits_ucs _ hx 19, Option.bind_some, hno]
    rfl
end Go.Proofs.Ytjjmfmlgemdjkaa.Pure
