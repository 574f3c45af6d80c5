/- Plain: whether two lists of texts, or two values, are the same, and the reference's Of. -/
import Derived.Test.YtjjmfmlgemdjkaaTValQ
import Derived.Test.YtjjmfmlgemdjkaaTPValx6
namespace Go.Proofs.Ytjjmfmlgemdjkaa.Val
open Go.RowKit Go.Proofs.Ytjjmfmlgemdjkaa Go.Proofs.Ytjjmfmlgemdjkaa.PVal Go.Proofs.YtjjmfmlgemdjkaaW.PrintWords Go.Proofs.YtjjmfmlgemdjkaaW.PrintLast Go.Proofs.YtjjmfmlgemdjkaaW.PrintMore

theorem eqs_loop (a b : List ByteArray) (he : a.length = b.length) (ha : a.length ≤ 1000) : ∀ (d i k : Nat), a.length - i = d → i ≤ a.length → d < k →
    phalaroperef05_Texts.l0 k a b (i : Int) = some (decide (a.drop i = b.drop i))
  | d, i, 0, _, _, hk => by omega
  | 0, i, k + 1, hd, hi, _ => by
    obtain rfl : i = a.length := by omega
    rw [phalaroperef05_Texts.l0, if_neg (by omega), List.drop_length, List.drop_eq_nil_of_le (by omega)]
    rfl
  | d + 1, i, k + 1, hd, hi, hk => by
    have hlt : i < a.length := by omega
    have hlb : i < b.length := by omega
    rw [phalaroperef05_Texts.l0, if_pos (by omega), if_pos (by omega), if_pos (by omega), rd_n a i hlt, rd_n b i hlb, List.drop_eq_getElem_cons hlt, List.drop_eq_getElem_cons hlb]
    by_cases e : a[i].toList = b[i].toList
    · rw [if_pos e, show (1 : Int) = ((1 : Nat) : Int) from rfl, wrap_n (by omega), eqs_loop a b he ha d (i + 1) k (by omega) (by omega) (by omega), toList_inj e]
      exact congrArg some (decide_eq_decide.2 (by simp only [List.cons.injEq, true_and]))
    · rw [if_neg e]
      refine congrArg some (decide_eq_false fun h => e ?_).symm
      rw [(List.cons.inj h).1]
theorem eqs_f (a b : List ByteArray) (ha : a.length ≤ 200) (k : Nat) (hk : 300 ≤ k) : phalaroperef05_Texts.f k a b = some (decide (a = b)) := by
  unfold phalaroperef05_Texts.f
  by_cases h : a.length = b.length
  · rw [if_pos (by omega)]
    exact eqs_loop a b h (by omega) a.length 0 k (by omega) (by omega) (by omega)
  · rw [if_neg (by omega)]
    exact congrArg some (decide_eq_false fun e => h (by rw [e])).symm
theorem very_loop (v : V) (hv : Small v) : ∀ (d i k : Nat), v.2.2.2.length - i = d → i ≤ v.2.2.2.length → d + 300 < k →
    phalaroperef08_Very.l0 k (i : Int) v.1 v.2.1 v.2.2.1 v.2.2.2 v.1 v.2.1 v.2.2.1 v.2.2.2 = some true
  | d, i, 0, _, _, hk => by omega
  | 0, i, k + 1, hd, hi, hk => by
    rw [phalaroperef08_Very.l0, if_neg (by omega), if_pos rfl, if_pos rfl, eqs_f _ _ (by have := hv.l; omega) k (by omega)]
    simp
  | d + 1, i, k + 1, hd, hi, hk => by
    have := hv.p
    rw [phalaroperef08_Very.l0, if_pos (by omega), if_pos (by omega), if_pos (by omega), if_neg (by simp), show (1 : Int) = ((1 : Nat) : Int) from rfl, wrap_n (by omega)]
    exact very_loop v hv d (i + 1) k (by omega) (by omega) (by omega)
theorem very_f {v : V} (hv : Small v) (k : Nat) (hk : 500 ≤ k) : phalaroperef08_Very.f k v.1 v.2.1 v.2.2.1 v.2.2.2 v.1 v.2.1 v.2.2.1 v.2.2.2 = some true := by
  have := hv.p
  unfold phalaroperef08_Very.f
  rw [if_pos rfl]
  exact very_loop v hv v.2.2.2.length 0 k (by omega) (by omega) (by omega)
end Go.Proofs.Ytjjmfmlgemdjkaa.Val

