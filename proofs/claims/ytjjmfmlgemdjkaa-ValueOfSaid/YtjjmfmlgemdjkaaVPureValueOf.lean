/- The law ValueOf, out of what its functions tell. -/
import Derived.Test.YtjjmfmlgemdjkaaVValS
import Derived.Test.YtjjmfmlgemdjkaaVValT
namespace Go.Proofs.Ytjjmfmlgemdjkaa.Pure
open Go.RowKit Go.Proofs.Ytjjmfmlgemdjkaa Go.Proofs.Ytjjmfmlgemdjkaa.PVal Go.Proofs.Ytjjmfmlgemdjkaa.Val Go.Proofs.YtjjmfmlgemdjkaaW.PrintWords Go.Proofs.YtjjmfmlgemdjkaaW.PrintLast Go.Proofs.YtjjmfmlgemdjkaaW.PrintMore

/-- The value of Of, and whether there is one. -/
def ofP (a : Int) (l : List ByteArray) : V := ((ofV a l).1, (ofV a l).2.1, (ofV a l).2.2.1, (ofV a l).2.2.2.1)
theorem ofP_small (a : Int) (l : List ByteArray) (hl : l.length ≤ 60) : Small (ofP a l) := by
  have hp : (pairs76 l).length = l.length / 2 := by simp [pairs76]
  unfold ofP ofV
  split
  · exact ⟨by simp, by simp⟩
  · split
    · exact ⟨by simp only; omega, by simp⟩
    · split
      · exact ⟨by simp, by simp only; omega⟩
      · exact ⟨by simp, by simp⟩
theorem ofP_is (a : Int) (l : List ByteArray) (h : (ofV a l).2.2.2.2 = true) : texts (ofP a l) = l ∧ (ofP a l).1 = a := by
  unfold ofP at *
  unfold ofV at *
  split at h
  · rename_i q
    obtain ⟨rfl, q⟩ := q
    rw [if_pos ⟨rfl, q⟩]
    match l, q with
    | [t], _ => exact ⟨rfl, rfl⟩
  · rename_i q1
    split at h
    · rename_i q
      rw [if_neg q1, if_pos q]
      obtain ⟨rfl, q⟩ := q
      exact ⟨rfl, rfl⟩
    · rename_i q2
      split at h
      · rename_i q
        rw [if_neg q1, if_neg q2, if_pos q]
        obtain ⟨rfl, q, q3⟩ := q
        exact ⟨flat_pairs l q3, rfl⟩
      · cases h

theorem of_in (a : Int) (l : List ByteArray) (hl : l.length ≤ 60) (k : Nat) (hk : 600 ≤ k) (i : Int) (hi : ¬ i < (l.length : Int)) : phalaropelaw08_ValueOf.l0 (k + 1) a l true i = some true := by
  rw [phalaropelaw08_ValueOf.l0, if_neg hi, of_f a l (by omega), Option.bind_some, of_ref a l (by omega) k (by omega), Option.bind_some, if_pos rfl, beq_self_eq_true, if_pos rfl]
  have hs := ofP_small a l hl
  have hv := very_f hs k (by omega)
  have ht := texts_f hs k (by omega)
  unfold ofP at hv ht
  dsimp only at hv ht
  rw [hv, Option.bind_some, if_pos rfl]
  by_cases h : (ofV a l).2.2.2.2 = true
  · obtain ⟨h1, h2⟩ := ofP_is a l h
    have hts : (texts (ofP a l)).length ≤ 200 := by rw [h1]; omega
    rw [if_pos h, ht, Option.bind_some]
    have := eqs_f (texts (ofP a l)) l hts k (by omega)
    unfold ofP at this h1 h2
    rw [this, Option.bind_some, if_pos (decide_eq_true h1)]
    dsimp only at h2
    rw [h2, beq_self_eq_true]
  · rw [if_neg h]
theorem of_walk (a : Int) (l : List ByteArray) (hl : l.length ≤ 60) : ∀ (d i k : Nat), l.length - i = d → i ≤ l.length → d + 700 < k → phalaropelaw08_ValueOf.l0 k a l true (i : Int) = some true
  | d, i, 0, _, _, hk => by omega
  | 0, i, k + 1, hd, hi, hk => of_in a l hl k (by omega) _ (by omega)
  | d + 1, i, k + 1, hd, hi, hk => by
    rw [phalaropelaw08_ValueOf.l0, if_pos (by omega), if_pos (by omega)]
    by_cases h : ((rdOf ByteArray.empty l (i : Int)).size : Int) > 200
    · rw [if_pos h]
    · rw [if_neg h, show (1 : Int) = ((1 : Nat) : Int) from rfl, wrap_n (by omega)]
      exact of_walk a l hl d (i + 1) k (by omega) (by omega) (by omega)
theorem ValueOf (a : Int) (l : List ByteArray) : ∃ k, phalaropelaw08_ValueOf.f k a l = some true := by
  refine ⟨1000, ?_⟩
  unfold phalaropelaw08_ValueOf.f
  rw [awake_f 1000 (by omega), Option.bind_some]
  by_cases h : (l.length : Int) > 60
  · rw [if_pos h]
  · rw [if_neg h]
    exact of_walk a l (by omega) l.length 0 1000 (by omega) (by omega) (by omega)
end Go.Proofs.Ytjjmfmlgemdjkaa.Pure

