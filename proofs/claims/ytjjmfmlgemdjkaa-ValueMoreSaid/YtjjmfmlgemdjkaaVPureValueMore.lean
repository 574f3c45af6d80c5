/- The law ValueMore, out of what its functions tell. -/
import Derived.Test.YtjjmfmlgemdjkaaVValQ
import Derived.Test.YtjjmfmlgemdjkaaVPValx9
namespace Go.Proofs.Ytjjmfmlgemdjkaa.Pure
open Go.RowKit Go.Proofs.Ytjjmfmlgemdjkaa Go.Proofs.Ytjjmfmlgemdjkaa.PVal Go.Proofs.Ytjjmfmlgemdjkaa.Val Go.Proofs.YtjjmfmlgemdjkaaW.PrintWords Go.Proofs.YtjjmfmlgemdjkaaW.PrintLast Go.Proofs.YtjjmfmlgemdjkaaW.PrintMore

theorem list_of_ (l : List ByteArray) (h : l ≠ []) : ofV 2 l = (2, ⟨#[]⟩, l, [], true) := by
  have : 0 < l.length := List.length_pos_iff.2 h
  simp [ofV, this]
theorem key_list (l : List ByteArray) (h : l ≠ []) : key (2, ⟨#[]⟩, l, []) = (2, l) := by
  simp [key, can, canB, h, texts, textsV]

theorem more_in (l : List ByteArray) (s : ByteArray) (h0 : l ≠ []) (h30 : l.length ≤ 30) : phalaropelaw08_ValueMore.j0 1001 l s true false = some true := by
  have s1 : Small (2, ⟨#[]⟩, l, []) := ⟨by simp only; omega, by simp⟩
  have s2 : Small (2, ⟨#[]⟩, l ++ [s], []) := ⟨by simp; omega, by simp⟩
  have hne : l ++ [s] ≠ [] := by simp
  have c1 := compare_f s1 s2 1000 (by omega)
  rw [key_list l h0, key_list _ hne] at c1
  have e1 : cmpP (2, l) (2, l ++ [s]) = -1 := by
    show (if cmpI 2 2 = 0 then cmpL l (l ++ [s]) else cmpI 2 2) = -1
    rw [if_pos (by decide)]
    exact cmpL_more l s
  rw [e1] at c1
  rw [phalaropelaw08_ValueMore.j0, if_neg (by decide), of_f 2 l (by omega), Option.bind_some, Option.bind_some, if_pos (by simp; omega), Option.bind_some, if_pos (by simp; omega), of_f 2 _ (by simp; omega), Option.bind_some, of_f 3 l (by omega), Option.bind_some, if_pos rfl]
  rw [show ([] : List ByteArray) ++ l ++ [s] = l ++ [s] from rfl, list_of_ l h0, list_of_ _ hne]
  dsimp only at c1 ⊢
  rw [if_pos rfl, if_pos rfl, c1, Option.bind_some, if_pos rfl]
  have hl : 0 < l.length := List.length_pos_iff.2 h0
  by_cases h2 : l.length % 2 = 0
  · have e3 : ofV 3 l = (3, ⟨#[]⟩, [], pairs76 l, true) := by simp [ofV, hl, h2]
    have hp : (pairs76 l).length = l.length / 2 := by simp [pairs76]
    have hpn : pairs76 l ≠ [] := by
      intro e
      rw [e] at hp
      simp at hp
      omega
    have s3 : Small (3, ⟨#[]⟩, [], pairs76 l) := ⟨by simp, by simp only; omega⟩
    have k3 : key (3, ⟨#[]⟩, [], pairs76 l) = (3, l) := by simp [key, can, canB, hpn, texts, textsV, flat_pairs l h2]
    have e4 : cmpP (2, l) (3, l) = -1 := by
      show (if cmpI 2 3 = 0 then cmpL l l else cmpI 2 3) = -1
      rw [if_neg (by decide)]
      decide
    have c2 := compare_f s1 s3 1000 (by omega)
    have c3 := same_f s1 s3 1000 (by omega)
    rw [key_list l h0, k3, e4] at c2 c3
    rw [e3]
    dsimp only at c2 c3 ⊢
    rw [show ((l.length : Int) % 2 == 0) = true from by rw [beq_iff_eq]; omega, if_pos (by rfl), if_pos rfl, c3, Option.bind_some, if_neg (by decide), c2]
    rfl
  · have e3 : ofV 3 l = (0, ⟨#[]⟩, [], [], false) := by simp [ofV, h2]
    rw [e3]
    dsimp only
    rw [show ((l.length : Int) % 2 == 0) = false from by rw [beq_eq_false_iff_ne]; omega, if_pos (by rfl), if_neg (by decide)]

theorem ValueMore (l : List ByteArray) (s : ByteArray) : ∃ k, phalaropelaw08_ValueMore.f k l s = some true := by
  refine ⟨1000 + 1, ?_⟩
  have out : phalaropelaw08_ValueMore.j0 (1000 + 1) l s true true = some true := by rw [phalaropelaw08_ValueMore.j0, if_pos rfl]
  unfold phalaropelaw08_ValueMore.f
  rw [awake_f 1001 (by omega), Option.bind_some, out]
  by_cases h0 : l = []
  · rw [if_pos (by rw [h0]; rfl)]
  · have : 0 < l.length := List.length_pos_iff.2 h0
    rw [if_neg (by omega)]
    by_cases h30 : (l.length : Int) > 30
    · rw [if_pos h30]
    · rw [if_neg h30]
      by_cases h2 : (s.size : Int) > 200
      · rw [decide_eq_true h2]; exact out
      · rw [decide_eq_false h2]; exact more_in l s h0 (by omega)
end Go.Proofs.Ytjjmfmlgemdjkaa.Pure

