/- Plain: what the printed functions of layer 8 tell: texts, what is left, order. -/
import Derived.Test.YtjjmfmlgemdjkaaTValP
import Derived.Test.YtjjmfmlgemdjkaaTPValx4
import Derived.Test.YtjjmfmlgemdjkaaTPValx7
namespace Go.Proofs.Ytjjmfmlgemdjkaa.Val
open Go.RowKit Go.Proofs.Ytjjmfmlgemdjkaa Go.Proofs.Ytjjmfmlgemdjkaa.PVal Go.Proofs.YtjjmfmlgemdjkaaW.PrintWords Go.Proofs.YtjjmfmlgemdjkaaW.PrintLast Go.Proofs.YtjjmfmlgemdjkaaW.PrintMore

theorem wrap_n {i n : Nat} (h : i + n ≤ 9223372036854775807) : wrap64 ((i : Int) + (n : Int)) = ((i + n : Nat) : Int) := by unfold wrap64; omega
theorem rd_n (l : List ByteArray) (i : Nat) (h : i < l.length) : rdOf ByteArray.empty l (i : Int) = l[i] := by
  unfold rdOf
  simp [List.getD_eq_getElem?_getD, h]
theorem rd_p (l : List S76) (i : Nat) (h : i < l.length) : rd_T76 l (i : Int) = l[i] := by
  unfold rd_T76
  simp [List.getD_eq_getElem?_getD, h]

/-- What Few lets in. -/
structure FewP (v : V) : Prop where
  s : v.2.1.size ≤ 200
  l : v.2.2.1.length ≤ 30
  p : v.2.2.2.length ≤ 30
  ls : ∀ t ∈ v.2.2.1, t.size ≤ 200
  ps : ∀ x ∈ v.2.2.2, x.f0.size ≤ 200 ∧ x.f1.size ≤ 200

theorem texts_len {v : V} (h : FewP v) : (texts v).length ≤ 60 := by
  unfold texts textsV
  have h1 := h.l
  have h2 := h.p
  have h3 := flat76_length v.2.2.2
  split
  · simp
  · split
    · omega
    · split
      · omega
      · simp
theorem texts_size {v : V} (h : FewP v) : ∀ t ∈ texts v, t.size ≤ 200 := by
  unfold texts textsV
  intro t
  split
  · intro ht
    rw [List.mem_singleton.1 ht]
    exact h.s
  · split
    · exact h.ls t
    · split
      · intro ht
        obtain ⟨x, hx, hm⟩ := List.mem_flatMap.1 ht
        have := h.ps x hx
        rcases List.mem_cons.1 hm with rfl | hm
        · exact this.1
        · rw [List.mem_singleton.1 hm]
          exact this.2
      · intro ht
        cases ht
structure Small (v : V) : Prop where
  l : v.2.2.1.length ≤ 100
  p : v.2.2.2.length ≤ 100
theorem FewP.small {v : V} (h : FewP v) : Small v := ⟨by have := h.l; omega, by have := h.p; omega⟩
theorem texts_small {v : V} (h : Small v) : (texts v).length ≤ 200 := by
  unfold texts textsV
  have h1 := h.l
  have h2 := h.p
  have h3 := flat76_length v.2.2.2
  split
  · simp
  · split
    · omega
    · split
      · omega
      · simp
theorem can_small {v : V} (h : Small v) : Small (can v) := by
  unfold can canB
  split
  · exact ⟨by simp, by simp⟩
  · split
    · exact ⟨h.l, by simp⟩
    · split
      · exact ⟨by simp, h.p⟩
      · exact ⟨by simp, by simp⟩

theorem texts_f {v : V} (h : Small v) (k : Nat) (hk : 300 ≤ k) : value_Texts.f k v.1 v.2.1 v.2.2.1 v.2.2.2 = some (texts v) :=
  texts_V k _ _ _ _ (by have := h.l; omega) (by have := h.p; omega) (by have := h.p; omega)
theorem of_f (a : Int) (l : List ByteArray) (h : l.length ≤ 1000) : value_Of.f a l = some (ofV a l) := by
  unfold value_Of.f
  rw [if_pos (by omega)]
theorem canon_f {v : V} (h : Small v) (k : Nat) (hk : 300 ≤ k) : value_Canon.f k v.1 v.2.1 v.2.2.1 v.2.2.2 = some (can v) := by
  unfold value_Canon.f
  have h1 := texts_small h
  rw [texts_f h k hk, Option.bind_some, of_f _ _ (by omega), Option.bind_some, ofV_texts]
theorem cmpI_f (a b : Int) : cmp_Compare_int.f a b = some (cmpI a b) := by
  unfold cmp_Compare_int.f cmp_isNaN_int.f cmpI
  simp only [bne_self_eq_false, Option.bind_some, Bool.false_eq_true, if_false]
  repeat' split
  all_goals rfl
theorem or_f (x y : Int) (k : Nat) (hk : 3 ≤ k) : cmp_Or_int.f k [x, y] = some (if x = 0 then y else x) := by
  obtain ⟨k, rfl⟩ : ∃ m, k = m + 3 := ⟨k - 3, by omega⟩
  unfold cmp_Or_int.f
  by_cases h1 : x = 0
  · by_cases h2 : y = 0
    · simp [cmp_Or_int.l0, rd, h1, h2, wrap64]
    · simp [cmp_Or_int.l0, rd, h1, h2, wrap64]
  · simp [cmp_Or_int.l0, rd, h1]

theorem cmpL_loop (a b : List ByteArray) (ha : a.length ≤ 1000) (hb : b.length ≤ 1000) : ∀ (d i k : Nat), a.length - i = d → i ≤ a.length → i ≤ b.length → d < k →
    slices_Compare_string_string.l0 k a b a (a.length : Int) (i : Int) = some (cmpL (a.drop i) (b.drop i))
  | d, i, 0, _, _, _, hk => by omega
  | 0, i, k + 1, hd, hi, hj, _ => by
    obtain rfl : i = a.length := by omega
    rw [slices_Compare_string_string.l0, if_neg (by omega), List.drop_length]
    by_cases h : a.length < b.length
    · rw [if_pos (by omega)]
      cases e : b.drop a.length with
      | nil => have := List.drop_eq_nil_iff.1 e; omega
      | cons => rfl
    · rw [if_neg (by omega), List.drop_eq_nil_of_le (by omega)]
      rfl
  | d + 1, i, k + 1, hd, hi, hj, hk => by
    have hlt : i < a.length := by omega
    rw [slices_Compare_string_string.l0, if_pos (by omega), if_pos (by omega), if_pos (by omega), List.drop_eq_getElem_cons hlt]
    by_cases h : i < b.length
    · rw [if_neg (by omega), if_pos (by omega), List.drop_eq_getElem_cons h, rd_n a i hlt, rd_n b i h]
      unfold cmp_Compare_string.f
      rw [Option.bind_some]
      show _ = some (if cmpS a[i] b[i] = 0 then cmpL (a.drop (i + 1)) (b.drop (i + 1)) else cmpS a[i] b[i])
      by_cases e : cmpS a[i] b[i] = 0
      · rw [if_pos e, if_pos e, show (1 : Int) = ((1 : Nat) : Int) from rfl, wrap_n (by omega)]
        exact cmpL_loop a b ha hb d (i + 1) k (by omega) (by omega) (by omega) (by omega)
      · rw [if_neg e, if_neg e]
    · rw [if_pos (by omega), show b.drop i = [] from List.drop_eq_nil_of_le (by omega)]
      rfl
theorem cmpL_f (a b : List ByteArray) (ha : a.length ≤ 200) (hb : b.length ≤ 200) (k : Nat) (hk : 300 ≤ k) : slices_Compare_string_string.f k a b = some (cmpL a b) :=
  cmpL_loop a b (by omega) (by omega) a.length 0 k (by omega) (by omega) (by omega) (by omega)
theorem compare_f {v w : V} (hv : Small v) (hw : Small w) (k : Nat) (hk : 300 ≤ k) : value_Compare.f k v.1 v.2.1 v.2.2.1 v.2.2.2 w.1 w.2.1 w.2.2.1 w.2.2.2 = some (cmpP (key v) (key w)) := by
  unfold value_Compare.f
  rw [canon_f hv k hk, Option.bind_some, canon_f hw k hk, Option.bind_some, cmpI_f, Option.bind_some, texts_f hv k hk, Option.bind_some, texts_f hw k hk, Option.bind_some,
    cmpL_f _ _ (texts_small hv) (texts_small hw) k hk, Option.bind_some, or_f _ _ k (by omega)]
  rfl
theorem same_f {v w : V} (hv : Small v) (hw : Small w) (k : Nat) (hk : 300 ≤ k) : value_Same.f k v.1 v.2.1 v.2.2.1 v.2.2.2 w.1 w.2.1 w.2.2.1 w.2.2.2 = some (cmpP (key v) (key w) == 0) := by
  unfold value_Same.f
  rw [compare_f hv hw k hk]
  rfl
theorem defined_f {v : V} (hv : Small v) (k : Nat) (hk : 300 ≤ k) : value_Defined.f k v.1 v.2.1 v.2.2.1 v.2.2.2 = some (canB v).2 := by
  unfold value_Defined.f
  rw [texts_f hv k hk, defined, Option.bind_some]
  exact congrArg some (decide_eq_decide.2 (by omega))

theorem awake_f (k : Nat) (hk : 300 ≤ k) : phalaropelaw08_awake.f k = some true := by
  have s1 : Small ((2, (⟨#[]⟩ : ByteArray), [], []) : V) := ⟨by simp, by simp⟩
  have s2 : Small ((1, (⟨#[]⟩ : ByteArray), [], []) : V) := ⟨by simp, by simp⟩
  have s3 : Small ((2, (⟨#[]⟩ : ByteArray), [(⟨#[98]⟩ : ByteArray), (⟨#[97]⟩ : ByteArray)], []) : V) := ⟨by simp, by simp⟩
  have d1 := defined_f s1 k hk
  have d2 := defined_f s2 k hk
  have c1 := compare_f s3 s2 k hk
  have c2 := same_f s3 s3 k hk
  rw [cmpP_tot.refl] at c2
  have e1 : ofV 2 [(⟨#[98]⟩ : ByteArray), (⟨#[97]⟩ : ByteArray)] = (2, (⟨#[]⟩ : ByteArray), [(⟨#[98]⟩ : ByteArray), (⟨#[97]⟩ : ByteArray)], [], true) := by simp [ofV]
  unfold phalaropelaw08_awake.f
  rw [of_f _ _ (by simp), Option.bind_some, e1]
  dsimp only at d1 d2 c1 c2 ⊢
  rw [d1, Option.bind_some, if_neg (by simp [canB]), d2, Option.bind_some, if_pos (by simp [canB]), if_pos rfl, if_pos (by rfl), if_pos (by simp), if_pos (by decide +kernel), c1, Option.bind_some,
    if_pos (by simp [cmpP, two, key, can, canB, cmpI]), c2]
  rfl

theorem few_p (v : V) : ∀ (d i k : Nat), 31 - i = d → i ≤ 31 → 2 * d + 2 < k → v.2.2.1.length ≤ 30 ∨ 30 < v.2.2.1.length → (v.2.2.1.length ≤ 30 → ∀ t ∈ v.2.2.1, t.size ≤ 200) → (∀ x ∈ v.2.2.2.take i, x.f0.size ≤ 200 ∧ x.f1.size ≤ 200) →
    ∃ b, phalaroperef08_Few.l1 k (i : Int) v.1 v.2.1 v.2.2.1 v.2.2.2 = some b ∧ (b = true → FewP v)
  | d, i, 0, _, _, hk, _, _, _ => by omega
  | d, i, 1, _, _, hk, _, _, _ => by omega
  | d, i, k + 2, hd, hi, hk, ho, hl, hp => by
    have fin : v.2.2.2.length ≤ i ∨ i = 31 → ∃ b, (if (v.2.1.size : Int) ≤ 200 then (if (v.2.2.1.length : Int) ≤ 30 then (some (decide ((v.2.2.2.length : Int) ≤ 30))) else (some false)) else (some false)) = some b ∧ (b = true → FewP v) := fun hq => by
      by_cases h1 : v.2.1.size ≤ 200
      · by_cases h2 : v.2.2.1.length ≤ 30
        · refine ⟨_, by rw [if_pos (by omega), if_pos (by omega)], fun hb => ?_⟩
          have h3 : v.2.2.2.length ≤ 30 := by have := of_decide_eq_true hb; omega
          refine ⟨h1, h2, h3, hl h2, ?_⟩
          rw [List.take_of_length_le (by omega)] at hp
          exact hp
        · exact ⟨false, by rw [if_pos (by omega), if_neg (by omega)], fun h => by cases h⟩
      · exact ⟨false, by rw [if_neg (by omega)], fun h => by cases h⟩
    rw [phalaroperef08_Few.l1]
    by_cases h : i < v.2.2.2.length
    · rw [if_pos (by omega)]
      by_cases h31 : i = 31
      · rw [show decide ((i : Int) < 31) = false from decide_eq_false (by omega), phalaroperef08_Few.j3, if_neg (by decide)]
        exact fin (.inr h31)
      · rw [show decide ((i : Int) < 31) = true from decide_eq_true (by omega), phalaroperef08_Few.j3, if_pos rfl, if_pos (by omega), if_pos (by omega), rd_p _ i h]
        by_cases h1 : (v.2.2.2[i].f0.size : Int) > 200
        · rw [if_pos h1]; exact ⟨false, rfl, fun h => by cases h⟩
        · by_cases h2 : (v.2.2.2[i].f1.size : Int) > 200
          · rw [if_neg h1, if_pos h2]; exact ⟨false, rfl, fun h => by cases h⟩
          · rw [if_neg h1, if_neg h2, show (1 : Int) = ((1 : Nat) : Int) from rfl, wrap_n (by omega)]
            refine few_p v (d - 1) (i + 1) k (by omega) (by omega) (by omega) ho hl fun x hx => ?_
            rw [List.take_add_one, List.getElem?_eq_getElem h] at hx
            rcases List.mem_append.1 hx with hx | hx
            · exact hp x hx
            · have : x = v.2.2.2[i] := by simpa using hx
              subst this
              omega
    · rw [if_neg (by omega), phalaroperef08_Few.j3, if_neg (by decide)]
      exact fin (.inl (by omega))
theorem few_l (v : V) : ∀ (d i k : Nat), 31 - i = d → i ≤ 31 → 2 * d + 70 < k → (∀ t ∈ v.2.2.1.take i, t.size ≤ 200) →
    ∃ b, phalaroperef08_Few.l0 k (i : Int) v.1 v.2.1 v.2.2.1 v.2.2.2 = some b ∧ (b = true → FewP v)
  | d, i, 0, _, _, hk, _ => by omega
  | d, i, 1, _, _, hk, _ => by omega
  | d, i, k + 2, hd, hi, hk, hl => by
    have fin : v.2.2.1.length ≤ i ∨ i = 31 → ∃ b, phalaroperef08_Few.l1 k 0 v.1 v.2.1 v.2.2.1 v.2.2.2 = some b ∧ (b = true → FewP v) := fun hq =>
      few_p v 31 0 k (by omega) (by omega) (by omega) (by omega) (fun h => by
        rw [List.take_of_length_le (by omega)] at hl
        exact hl) (by simp)
    rw [phalaroperef08_Few.l0]
    by_cases h : i < v.2.2.1.length
    · rw [if_pos (by omega)]
      by_cases h31 : i = 31
      · rw [show decide ((i : Int) < 31) = false from decide_eq_false (by omega), phalaroperef08_Few.j1, if_neg (by decide)]
        exact fin (.inr h31)
      · rw [show decide ((i : Int) < 31) = true from decide_eq_true (by omega), phalaroperef08_Few.j1, if_pos rfl, if_pos (by omega), if_pos (by omega), rd_n _ i h]
        by_cases h1 : (v.2.2.1[i].size : Int) > 200
        · rw [if_pos h1]; exact ⟨false, rfl, fun h => by cases h⟩
        · rw [if_neg h1, show (1 : Int) = ((1 : Nat) : Int) from rfl, wrap_n (by omega)]
          refine few_l v (d - 1) (i + 1) k (by omega) (by omega) (by omega) fun x hx => ?_
          rw [List.take_add_one, List.getElem?_eq_getElem h] at hx
          rcases List.mem_append.1 hx with hx | hx
          · exact hl x hx
          · have : x = v.2.2.1[i] := by simpa using hx
            subst this
            omega
    · rw [if_neg (by omega), phalaroperef08_Few.j1, if_neg (by decide)]
      exact fin (.inl (by omega))
theorem few_f (v : V) (k : Nat) (hk : 300 ≤ k) : ∃ b, phalaroperef08_Few.f k v.1 v.2.1 v.2.2.1 v.2.2.2 = some b ∧ (b = true → FewP v) :=
  few_l v 31 0 k (by omega) (by omega) (by omega) (by simp)
end Go.Proofs.Ytjjmfmlgemdjkaa.Val

