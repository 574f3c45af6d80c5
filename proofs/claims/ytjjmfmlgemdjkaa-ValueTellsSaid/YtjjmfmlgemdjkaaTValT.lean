/- Plain: the reference's Of. -/
import Derived.Test.YtjjmfmlgemdjkaaTValQ
import Derived.Test.YtjjmfmlgemdjkaaTPValx5
namespace Go.Proofs.Ytjjmfmlgemdjkaa.Val
open Go.RowKit Go.Proofs.Ytjjmfmlgemdjkaa Go.Proofs.Ytjjmfmlgemdjkaa.PVal Go.Proofs.YtjjmfmlgemdjkaaW.PrintWords Go.Proofs.YtjjmfmlgemdjkaaW.PrintLast Go.Proofs.YtjjmfmlgemdjkaaW.PrintMore

theorem pairs_take (l : List ByteArray) (j : Nat) (h : 2 * j + 1 < l.length) : (pairs76 l).take (j + 1) = (pairs76 l).take j ++ [⟨l[2 * j], l[2 * j + 1]⟩] := by
  have hj : j < (pairs76 l).length := by simp [pairs76]; omega
  rw [List.take_add_one, List.getElem?_eq_getElem hj]
  have h0 : 2 * j < l.length := by omega
  simp [pairs76, List.getD_eq_getElem?_getD, h, h0]
theorem of_loop (l : List ByteArray) (hl : l.length ≤ 1000) (he : l.length % 2 = 0) (a : Int) (s : ByteArray) : ∀ (d j k : Nat), l.length / 2 - j = d → j ≤ l.length / 2 → d < k →
    phalaroperef08_Of.l0 k l ((2 * j : Nat) : Int) a s ((pairs76 l).take j) = some (a, s, [], pairs76 l, true)
  | d, j, 0, _, _, hk => by omega
  | 0, j, k + 1, hd, hj, _ => by
    have hp : (pairs76 l).length = l.length / 2 := by simp [pairs76]
    rw [phalaroperef08_Of.l0, show (1 : Int) = ((1 : Nat) : Int) from rfl, wrap_n (by omega), if_neg (by omega), List.take_of_length_le (by omega)]
  | d + 1, j, k + 1, hd, hj, hk => by
    have hp : (pairs76 l).length = l.length / 2 := by simp [pairs76]
    rw [phalaroperef08_Of.l0, show (1 : Int) = ((1 : Nat) : Int) from rfl, show (2 : Int) = ((2 : Nat) : Int) from rfl, wrap_n (by omega), wrap_n (by omega), if_pos (by omega), if_pos (by omega), if_pos (by omega), if_pos (by omega),
      if_pos (by rw [List.length_take]; omega), rd_n l _ (show 2 * j < l.length by omega), rd_n l _ (show 2 * j + 1 < l.length by omega), ← pairs_take l j (by omega), show 2 * j + 2 = 2 * (j + 1) from by omega]
    exact of_loop l hl he a s d (j + 1) k (by omega) (by omega) (by omega)
theorem of_ref (a : Int) (l : List ByteArray) (hl : l.length ≤ 200) (k : Nat) (hk : 300 ≤ k) : phalaroperef08_Of.f k a l = some (ofV a l) := by
  obtain ⟨k, rfl⟩ : ∃ m, k = m + 3 := ⟨k - 3, by omega⟩
  unfold phalaroperef08_Of.f ofV
  by_cases h1 : a = 1
  · rw [if_pos h1]
    by_cases h : l.length = 1
    · rw [if_pos ⟨h1, h⟩, show ((l.length : Int) == 1) = true from by rw [beq_iff_eq]; omega, phalaroperef08_Of.j0, if_pos rfl, if_pos (by omega), h1]
      rfl
    · rw [if_neg (fun q => h q.2), if_neg (by omega), if_neg (by omega), show ((l.length : Int) == 1) = false from by rw [beq_eq_false_iff_ne]; omega, phalaroperef08_Of.j0, if_neg (by decide), if_neg (by omega),
        phalaroperef08_Of.j1, if_neg (by decide), if_neg (by omega), phalaroperef08_Of.j2, if_pos rfl]
  · rw [if_neg h1, if_neg (fun q => h1 q.1), phalaroperef08_Of.j0, if_neg (by decide)]
    by_cases h2 : a = 2
    · rw [if_pos h2]
      by_cases h : 0 < l.length
      · rw [if_pos ⟨h2, h⟩, decide_eq_true (by omega), phalaroperef08_Of.j1, if_pos rfl, Option.bind_some, if_pos (by simp; omega), h2]
        rfl
      · rw [if_neg (fun q => h q.2), if_neg (by omega), decide_eq_false (by omega), phalaroperef08_Of.j1, if_neg (by decide), if_neg (by omega), phalaroperef08_Of.j2, if_pos rfl]
    · rw [if_neg h2, if_neg (fun q => h2 q.1), phalaroperef08_Of.j1, if_neg (by decide)]
      by_cases h3 : a = 3
      · rw [if_pos h3]
        by_cases h : l.length = 0
        · rw [if_pos (by omega), if_neg (by omega), phalaroperef08_Of.j2, if_pos rfl]
        · rw [if_neg (by omega)]
          by_cases h4 : l.length % 2 = 0
          · rw [if_pos ⟨h3, by omega, h4⟩, show ((l.length : Int) % 2 == 1) = false from by rw [beq_eq_false_iff_ne]; omega, phalaroperef08_Of.j2, if_neg (by decide), h3]
            exact of_loop l (by omega) h4 3 _ (l.length / 2) 0 k (by omega) (by omega) (by omega)
          · rw [if_neg (by omega), show ((l.length : Int) % 2 == 1) = true from by rw [beq_iff_eq]; omega, phalaroperef08_Of.j2, if_pos rfl]
      · rw [if_neg h3, if_neg (fun q => h3 q.1), phalaroperef08_Of.j2, if_pos rfl]
end Go.Proofs.Ytjjmfmlgemdjkaa.Val

