/- Plain: the reference's functions of layer 8. -/
import Derived.Test.YtjjmfmlgemdjkaaTValS
import Derived.Test.YtjjmfmlgemdjkaaTValT
import Derived.Test.YtjjmfmlgemdjkaaTValU
import Derived.Test.YtjjmfmlgemdjkaaTPValx15
namespace Go.Proofs.Ytjjmfmlgemdjkaa.Val
open Go.RowKit Go.Proofs.Ytjjmfmlgemdjkaa Go.Proofs.Ytjjmfmlgemdjkaa.PVal Go.Proofs.YtjjmfmlgemdjkaaW.PrintWords Go.Proofs.YtjjmfmlgemdjkaaW.PrintLast Go.Proofs.YtjjmfmlgemdjkaaW.PrintMore

theorem flat_cons (x : S76) (p : List S76) : flat76 (x :: p) = [x.f0, x.f1] ++ flat76 p := rfl
theorem tp_loop (v : V) (hv : Small v) (h3 : v.1 = 3) : ∀ (d i k : Nat) (acc : List ByteArray), v.2.2.2.length - i = d → i ≤ v.2.2.2.length → d < k → acc.length ≤ 2 * i →
    phalaroperef08_Texts.l1 k acc (i : Int) v.1 v.2.1 v.2.2.1 v.2.2.2 = some (acc ++ flat76 (v.2.2.2.drop i))
  | d, i, 0, _, _, _, hk, _ => by omega
  | 0, i, k + 1, acc, hd, hi, hk, ha => by
    rw [phalaroperef08_Texts.l1, if_neg (by omega), List.drop_eq_nil_of_le (by omega)]
    simp [flat76]
  | d + 1, i, k + 1, acc, hd, hi, hk, ha => by
    have hlt : i < v.2.2.2.length := by omega
    have := hv.p
    rw [phalaroperef08_Texts.l1, if_pos (by omega), if_pos h3, if_pos (by omega), Option.bind_some, rd_p _ i hlt, show (1 : Int) = ((1 : Nat) : Int) from rfl, wrap_n (by omega), if_pos (by simp; omega),
      tp_loop v hv h3 d (i + 1) k _ (by omega) (by omega) (by omega) (by simp; omega), List.drop_eq_getElem_cons hlt, flat_cons, List.append_assoc]
theorem tp_no (v : V) (h3 : v.1 ≠ 3) (k : Nat) (acc : List ByteArray) : phalaroperef08_Texts.l1 (k + 1) acc 0 v.1 v.2.1 v.2.2.1 v.2.2.2 = some acc := by
  rw [phalaroperef08_Texts.l1]
  by_cases h : (0 : Int) < (v.2.2.2.length : Int)
  · rw [if_pos h, if_neg h3]
  · rw [if_neg h]
theorem tl_loop (v : V) (hv : Small v) (h2 : v.1 = 2) : ∀ (d i k : Nat) (acc : List ByteArray), v.2.2.1.length - i = d → i ≤ v.2.2.1.length → d + 3 < k → acc.length ≤ i →
    phalaroperef08_Texts.l0 k acc (i : Int) v.1 v.2.1 v.2.2.1 v.2.2.2 = some (acc ++ v.2.2.1.drop i)
  | d, i, 0, _, _, _, hk, _ => by omega
  | 0, i, k + 1, acc, hd, hi, hk, ha => by
    obtain ⟨k, rfl⟩ : ∃ m, k = m + 2 := ⟨k - 2, by omega⟩
    rw [phalaroperef08_Texts.l0, if_neg (by omega), phalaroperef08_Texts.j2, tp_no v (by omega), List.drop_eq_nil_of_le (by omega), List.append_nil]
  | d + 1, i, k + 1, acc, hd, hi, hk, ha => by
    have hlt : i < v.2.2.1.length := by omega
    have := hv.l
    rw [phalaroperef08_Texts.l0, if_pos (by omega), if_pos h2, if_pos (by omega), rd_n _ i hlt, show (1 : Int) = ((1 : Nat) : Int) from rfl, wrap_n (by omega), if_pos (by omega),
      tl_loop v hv h2 d (i + 1) k _ (by omega) (by omega) (by omega) (by simp; omega), List.drop_eq_getElem_cons hlt, List.append_assoc]
    rfl
theorem tl_no (v : V) (h2 : v.1 ≠ 2) (k : Nat) (acc : List ByteArray) : phalaroperef08_Texts.l0 (k + 2) acc 0 v.1 v.2.1 v.2.2.1 v.2.2.2 = phalaroperef08_Texts.l1 k acc 0 v.1 v.2.1 v.2.2.1 v.2.2.2 := by
  rw [phalaroperef08_Texts.l0]
  by_cases h : (0 : Int) < (v.2.2.1.length : Int)
  · rw [if_pos h, if_neg h2, phalaroperef08_Texts.j2]
  · rw [if_neg h, phalaroperef08_Texts.j2]
theorem texts_ref {v : V} (hv : Small v) (k : Nat) (hk : 300 ≤ k) : phalaroperef08_Texts.f k v.1 v.2.1 v.2.2.1 v.2.2.2 = some (texts v) := by
  obtain ⟨k, rfl⟩ : ∃ m, k = m + 4 := ⟨k - 4, by omega⟩
  have h1 := hv.l
  have h2 := hv.p
  unfold phalaroperef08_Texts.f texts textsV
  by_cases e1 : v.1 = 1
  · rw [if_pos e1, if_pos e1, if_pos (by simp), phalaroperef08_Texts.j0, tl_no v (by omega), tp_no v (by omega)]
    rfl
  · rw [if_neg e1, if_neg e1, phalaroperef08_Texts.j0]
    by_cases e2 : v.1 = 2
    · rw [if_pos e2]
      exact tl_loop v hv e2 v.2.2.1.length 0 (k + 3) [] (by omega) (by omega) (by omega) (by simp)
    · rw [if_neg e2, tl_no v e2]
      by_cases e3 : v.1 = 3
      · rw [if_pos e3]
        exact tp_loop v hv e3 v.2.2.2.length 0 (k + 1) [] (by omega) (by omega) (by omega) (by simp)
      · rw [if_neg e3, tp_no v e3]
theorem canon_ref {v : V} (hv : Small v) (k : Nat) (hk : 300 ≤ k) : phalaroperef08_Canon.f k v.1 v.2.1 v.2.2.1 v.2.2.2 = some (can v) := by
  have h1 := texts_small hv
  unfold phalaroperef08_Canon.f
  rw [texts_ref hv k hk, Option.bind_some, of_ref _ _ h1 k hk, Option.bind_some, ofV_texts]
theorem valid_loop (l : List ByteArray) (hl : l.length ≤ 200) (hs : ∀ t ∈ l, t.size ≤ 200) : ∀ (d i k : Nat), l.length - i = d → i ≤ l.length → d + 300 < k → phalaroperef08_Valid.l0 k l (i : Int) = some ((l.drop i).all validU)
  | d, i, 0, _, _, hk => by omega
  | 0, i, k + 1, hd, hi, hk => by
    rw [phalaroperef08_Valid.l0, if_neg (by omega), List.drop_eq_nil_of_le (by omega)]
    rfl
  | d + 1, i, k + 1, hd, hi, hk => by
    have hlt : i < l.length := by omega
    rw [phalaroperef08_Valid.l0, if_pos (by omega), if_pos (by omega), rd_n _ i hlt, valid_ref1 _ (hs _ (List.getElem_mem hlt)) k (by omega), Option.bind_some, List.drop_eq_getElem_cons hlt, List.all_cons]
    cases h : validU l[i] with
    | false => rfl
    | true =>
      rw [if_pos rfl, show (1 : Int) = ((1 : Nat) : Int) from rfl, wrap_n (by omega), Bool.true_and]
      exact valid_loop l hl hs d (i + 1) k (by omega) (by omega) (by omega)
theorem valid_ref {v : V} (hv : FewP v) (k : Nat) (hk : 600 ≤ k) : phalaroperef08_Valid.f k v.1 v.2.1 v.2.2.1 v.2.2.2 = some ((texts v).all validU) := by
  have h1 := texts_len hv
  unfold phalaroperef08_Valid.f
  rw [texts_ref hv.small k (by omega), Option.bind_some]
  exact valid_loop (texts v) (by omega) (texts_size hv) (texts v).length 0 k (by omega) (by omega) (by omega)
theorem same_key (v w : V) : (cmpP (key v) (key w) == 0) = (decide ((can v).1 = (can w).1) && decide (texts v = texts w)) := by
  rw [Bool.eq_iff_iff, beq_iff_eq, cmpP_tot.zero]
  unfold key
  rw [Prod.mk.injEq]
  simp
theorem same_ref {v w : V} (hv : Small v) (hw : Small w) (k : Nat) (hk : 300 ≤ k) : phalaroperef08_Same.f k v.1 v.2.1 v.2.2.1 v.2.2.2 w.1 w.2.1 w.2.2.1 w.2.2.2 = some (cmpP (key v) (key w) == 0) := by
  unfold phalaroperef08_Same.f
  rw [same_key, canon_ref hv k hk, Option.bind_some, canon_ref hw k hk, Option.bind_some]
  by_cases h : (can v).1 = (can w).1
  · rw [if_pos h, texts_ref hv k hk, Option.bind_some, texts_ref hw k hk, Option.bind_some, eqs_f _ _ (texts_small hv) k hk, decide_eq_true h]
    rfl
  · rw [if_neg h, decide_eq_false h]
    rfl
theorem less_loop (a b : List ByteArray) (ha : a.length ≤ 1000) (hb : b.length ≤ 1000) : ∀ (d i k : Nat), a.length - i = d → i ≤ a.length → d < k → phalaroperef08_less.l0 k a b (i : Int) = some (decide (cmpL (a.drop i) (b.drop i) < 0))
  | d, i, 0, _, _, hk => by omega
  | d, i, k + 1, hd, hi, hk => by
    rw [phalaroperef08_less.l0]
    by_cases hb : i < b.length
    · rw [if_pos (by omega), List.drop_eq_getElem_cons hb]
      by_cases he : i = a.length
      · rw [if_pos (by omega), List.drop_eq_nil_of_le (by omega)]
        rfl
      · have hlt : i < a.length := by omega
        rw [if_neg (by omega), if_pos (by omega), if_pos (by omega), rd_n a i hlt, rd_n b i hb, List.drop_eq_getElem_cons hlt]
        show _ = some (decide ((if cmpS a[i] b[i] = 0 then cmpL (a.drop (i + 1)) (b.drop (i + 1)) else cmpS a[i] b[i]) < 0))
        by_cases e : a[i].toList = b[i].toList
        · rw [if_pos e, if_pos ((cmpS_tot.zero _ _).2 (toList_inj e)), show (1 : Int) = ((1 : Nat) : Int) from rfl, wrap_n (by omega)]
          exact less_loop a b ha (by omega) (d - 1) (i + 1) k (by omega) (by omega) (by omega)
        · rw [if_neg e, if_neg (fun q => e (by rw [(cmpS_tot.zero _ _).1 q])), less_lex, cmpS_lex]
    · rw [if_neg (by omega), show b.drop i = [] from List.drop_eq_nil_of_le (by omega)]
      refine congrArg some (decide_eq_false ?_).symm
      cases a.drop i with
      | nil => simp [cmpL, lex]
      | cons x xs => simp [cmpL, lex]
theorem less_f (a b : List ByteArray) (ha : a.length ≤ 200) (hb : b.length ≤ 200) (k : Nat) (hk : 300 ≤ k) : phalaroperef08_less.f k a b = some (decide (cmpL a b < 0)) :=
  less_loop a b (by omega) (by omega) a.length 0 k (by omega) (by omega) (by omega)
theorem compare_ref {v w : V} (hv : Small v) (hw : Small w) (k : Nat) (hk : 400 ≤ k) : phalaroperef08_Compare.f k v.1 v.2.1 v.2.2.1 v.2.2.2 w.1 w.2.1 w.2.2.1 w.2.2.2 = some (cmpP (key v) (key w)) := by
  obtain ⟨k, rfl⟩ : ∃ m, k = m + 1 := ⟨k - 1, by omega⟩
  have R := cmpP_tot.rng (key v) (key w)
  have tail : ¬ cmpP (key v) (key w) < 0 → phalaroperef08_Compare.j0 (k + 1) false v.1 v.2.1 v.2.2.1 v.2.2.2 w.1 w.2.1 w.2.2.1 w.2.2.2 = some (cmpP (key v) (key w)) := fun h => by
    rw [phalaroperef08_Compare.j0, if_neg (by decide), same_ref hv hw k (by omega), Option.bind_some]
    by_cases e : cmpP (key v) (key w) = 0
    · rw [e]; rfl
    · rw [if_neg (by rw [beq_iff_eq]; exact e)]
      exact congrArg some (by omega)
  have head : cmpP (key v) (key w) < 0 → phalaroperef08_Compare.j0 (k + 1) true v.1 v.2.1 v.2.2.1 v.2.2.2 w.1 w.2.1 w.2.2.1 w.2.2.2 = some (cmpP (key v) (key w)) := fun h => by
    rw [phalaroperef08_Compare.j0, if_pos rfl]
    exact congrArg some (by omega)
  unfold phalaroperef08_Compare.f
  rw [canon_ref hv (k + 1) (by omega), Option.bind_some, canon_ref hw (k + 1) (by omega), Option.bind_some]
  have hP : cmpP (key v) (key w) = if cmpI (can v).1 (can w).1 = 0 then cmpL (texts v) (texts w) else cmpI (can v).1 (can w).1 := rfl
  by_cases h1 : (can v).1 < (can w).1
  · have e1 : cmpI (can v).1 (can w).1 = -1 := by unfold cmpI; rw [if_pos h1]
    rw [if_pos h1]
    exact head (by rw [hP, e1, if_neg (by decide)]; decide)
  · rw [if_neg h1]
    by_cases h2 : (can v).1 = (can w).1
    · have e1 : cmpI (can v).1 (can w).1 = 0 := (cmpI_tot.zero _ _).2 h2
      rw [if_pos h2, texts_ref (can_small hv) (k + 1) (by omega), Option.bind_some, texts_ref (can_small hw) (k + 1) (by omega), Option.bind_some, texts_can, texts_can, less_f _ _ (texts_small hv) (texts_small hw) (k + 1) (by omega), Option.bind_some]
      rw [if_pos e1] at hP
      by_cases h3 : cmpL (texts v) (texts w) < 0
      · rw [decide_eq_true h3]
        exact head (by omega)
      · rw [decide_eq_false h3]
        exact tail (by omega)
    · have e1 : cmpI (can v).1 (can w).1 = 1 := by unfold cmpI; rw [if_neg h1, if_pos (by omega)]
      rw [if_neg h2]
      exact tail (by rw [hP, e1, if_neg (by decide)]; decide)
end Go.Proofs.Ytjjmfmlgemdjkaa.Val

