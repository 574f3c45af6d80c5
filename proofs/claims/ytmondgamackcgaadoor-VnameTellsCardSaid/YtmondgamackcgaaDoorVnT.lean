/- Plain: the reference's names tell what vname tells; no Go in sight. -/
import Derived.Test.YtmondgamackcgaaDoorVnS
namespace Go.Proofs.YtmondgamackcgaaDoor

theorem ends_mono (x : List Nat) (l : List Nat) : ∀ p e, e ≤ p → (endsS 0 l p e).1 ≤ (endsS 0 (l ++ x) p e).1 := by
  refine step_ind (P := fun l => ∀ p e, e ≤ p → (endsS 0 l p e).1 ≤ (endsS 0 (l ++ x) p e).1) ?_ ?_ ?_ ?_ l
  · intro p e he
    exact (ends_inv x p e he).1
  · intro c r hw ih p e he
    rw [List.cons_append, ends_word hw, ends_word hw]
    exact ih _ _ (Nat.le_refl _)
  · intro a b r ha hb ih p e he
    show _ ≤ (endsS 0 (37 :: a :: b :: (r ++ x)) p e).1
    rw [ends_trip ha hb, ends_trip ha hb]
    exact ih _ _ (Nat.le_refl _)
  · intro c r hw ht ih p e he
    by_cases h1 : c = 46 ∧ 0 < p ∧ p = e
    · obtain ⟨rfl, h1⟩ := h1
      rw [List.cons_append, ends_dot h1, ends_dot h1]
      exact ih _ _ (by omega)
    · by_cases h3 : c = 37
      · subst h3
        rw [ends_pct ht, List.cons_append]
        cases hT : (trip (37 :: (r ++ x))).isSome with
        | true =>
          obtain ⟨a, b, r', e', ha, hb⟩ := trip_len hT
          rw [e', ends_trip ha hb]
          have := (ends_inv r' (p + 3) (p + 3) (Nat.le_refl _)).1
          split <;> (dsimp only; omega)
        | false =>
          rw [ends_pct hT]
          cases r with
          | nil =>
            rw [if_neg (by rw [show (hexV (([] : List Nat).getD 0 0)).isSome = false from rfl]; decide)]
            split <;> (dsimp only; omega)
          | cons d r => exact Nat.le_refl _
      · rw [ends_stop hw h1 ht h3]
        exact (ends_inv (c :: r ++ x) p e he).1
/-- A begin of a name is one with an a, a 41, or a 1, behind it, or with nothing. -/
theorem begins_to (l : List Nat) : ∀ p e, e ≤ p → (endsS 0 l p e).1 = p + l.length → nameL (decide (0 < p) && decide (p = e)) l = true ∨ nameL (decide (0 < p) && decide (p = e)) (l ++ [97]) = true ∨ nameL (decide (0 < p) && decide (p = e)) (l ++ [52, 49]) = true ∨ nameL (decide (0 < p) && decide (p = e)) (l ++ [49]) = true := by
  refine step_ind (P := fun l => ∀ p e, e ≤ p → (endsS 0 l p e).1 = p + l.length → nameL (decide (0 < p) && decide (p = e)) l = true ∨ nameL (decide (0 < p) && decide (p = e)) (l ++ [97]) = true ∨ nameL (decide (0 < p) && decide (p = e)) (l ++ [52, 49]) = true ∨ nameL (decide (0 < p) && decide (p = e)) (l ++ [49]) = true) ?_ ?_ ?_ ?_ l
  · intro p e he h
    exact .inr (.inl (by rw [List.nil_append, name_word (by decide)]; rfl))
  · intro c r hw ih p e he h
    rw [ends_word hw] at h
    have := ih (p + 1) (p + 1) (Nat.le_refl _) (by rw [h]; simp; omega)
    rw [List.cons_append, List.cons_append, List.cons_append, name_word hw, name_word hw, name_word hw, name_word hw]
    simpa using this
  · intro a b r ha hb ih p e he h
    rw [ends_trip ha hb] at h
    have := ih (p + 3) (p + 3) (Nat.le_refl _) (by rw [h]; simp; omega)
    have T : ∀ (b' : Bool) (z : List Nat), nameL b' (37 :: a :: b :: z) = nameL true z := fun b' z => by rw [name_trip (trip_three ha hb z)]; rfl
    show nameL _ (37 :: a :: b :: r) = true ∨ nameL _ (37 :: a :: b :: (r ++ [97])) = true ∨ nameL _ (37 :: a :: b :: (r ++ [52, 49])) = true ∨ nameL _ (37 :: a :: b :: (r ++ [49])) = true
    rw [T, T, T, T]
    simpa using this
  · intro c r hw ht ih p e he h
    by_cases h1 : c = 46 ∧ 0 < p ∧ p = e
    · obtain ⟨rfl, h1⟩ := h1
      rw [ends_dot h1] at h
      have := ih (p + 1) e (by omega) (by rw [h]; simp; omega)
      rw [decide_eq_false (show ¬ p + 1 = e by omega), Bool.and_false] at this
      rw [decide_eq_true h1.1, decide_eq_true h1.2]
      rw [List.cons_append, List.cons_append, List.cons_append, name_46, name_46, name_46, name_46]
      simpa using this
    · by_cases h3 : c = 37
      · subst h3
        rw [ends_pct ht] at h
        cases r with
        | nil => exact .inr (.inr (.inl (by rw [List.singleton_append, name_trip (by decide)]; rfl)))
        | cons d r =>
          cases hx : (hexV d).isSome with
          | false =>
            rw [if_neg (by rw [show (d :: r).getD 0 0 = d from rfl, hx]; decide)] at h
            simp at h
          | true =>
            rw [if_pos (by rw [show (d :: r).getD 0 0 = d from rfl, hx])] at h
            obtain rfl : r = [] := List.eq_nil_of_length_eq_zero (by have h' : p + 2 = p + (r.length + 1 + 1) := h; omega)
            refine .inr (.inr (.inr ?_))
            show nameL _ (37 :: d :: 49 :: []) = true
            rw [name_trip (trip_three hx (by decide) [])]
            rfl
      · rw [ends_stop hw h1 ht h3] at h
        simp at h
theorem begins_of {l y : List Nat} (h : nameL false (l ++ y) = true) : (endsS 0 l 0 0).1 = l.length := by
  have h1 := ends_name h
  have h2 := (ends_inv l 0 0 (Nat.le_refl _)).2.1
  rw [Nat.zero_add] at h2
  rcases Nat.lt_or_ge (endsS 0 l 0 0).1 l.length with h3 | h3
  · have := ends_more y l 0 0 (Nat.le_refl _) (by omega)
    rw [h1] at this
    simp at this
    omega
  · omega
theorem begins_iff (l : List Nat) : (nameL false l = true ∨ nameL false (l ++ [97]) = true ∨ nameL false (l ++ [52, 49]) = true ∨ nameL false (l ++ [49]) = true) ↔ (endsS 0 l 0 0).1 = l.length := by
  constructor
  · rintro (h | h | h | h)
    · exact begins_of (y := []) (by rw [List.append_nil]; exact h)
    · exact begins_of h
    · exact begins_of h
    · exact begins_of h
  · intro h
    have := begins_to l 0 0 (Nat.le_refl _) (by omega)
    simpa using this
theorem begins_take {l : List Nat} {m : Nat} (hm : m ≤ l.length) : (endsS 0 (l.take m) 0 0).1 = m ↔ m ≤ (endsS 0 l 0 0).1 := by
  have hl : (l.take m).length = m := by rw [List.length_take]; omega
  have hj : l.take m ++ l.drop m = l := List.take_append_drop m l
  have h1 := ends_mono (l.drop m) (l.take m) 0 0 (Nat.le_refl _)
  have h2 := (ends_inv (l.take m) 0 0 (Nat.le_refl _)).2.1
  rw [hj] at h1
  rw [hl, Nat.zero_add] at h2
  constructor
  · intro h; omega
  · intro h
    rcases Nat.lt_or_ge (endsS 0 (l.take m) 0 0).1 m with h3 | h3
    · have := ends_more (l.drop m) (l.take m) 0 0 (Nat.le_refl _) (by omega)
      rw [hj] at this
      omega
    · omega
theorem name_take {l : List Nat} {n : Nat} (hn : n ≤ l.length) (h : nameL false (l.take n) = true) : n ≤ (endsS 0 l 0 0).2 := by
  have hl : (l.take n).length = n := by rw [List.length_take]; omega
  have := ends_app (l.drop n) (l.take n) false 0 0 h (fun hh => by cases hh)
  rw [List.take_append_drop, hl, Nat.zero_add] at this
  rw [this]
  rcases (ends_inv (l.drop n) n n (Nat.le_refl _)).2.2.2 with h4 | ⟨k, _, _, h4, _⟩ <;> omega
theorem take_name {l : List Nat} (h : ¬ (endsS 0 l 0 0).2 = 0) : nameL false (l.take (endsS 0 l 0 0).2) = true := by
  rcases (ends_inv l 0 0 (Nat.le_refl _)).2.2.2 with h4 | ⟨k, _, _, h4, h5⟩
  · exact absurd h4 h
  · rw [h4, Nat.zero_add]
    exact h5
/-- A byte more. -/
theorem splitD_snoc_dot : ∀ (l : List Nat), splitD (l ++ [46]) = splitD l ++ [[]]
  | [] => rfl
  | c :: r => by
    have ih := splitD_snoc_dot r
    obtain ⟨h, t, e⟩ := splitD_cons r
    rw [e] at ih
    by_cases hc : c = 46
    · subst hc
      rw [List.cons_append, splitD_dot, splitD_dot, ih, e]
      rfl
    · rw [List.cons_append, splitD_other hc ih, splitD_other hc e]
      rfl
theorem splitD_snoc {d : Nat} (hd : d ≠ 46) : ∀ (l : List Nat), splitD (l ++ [d]) = (splitD l).set ((splitD l).length - 1) ((splitD l).getD ((splitD l).length - 1) [] ++ [d])
  | [] => by
    rw [List.nil_append, splitD_other hd rfl]
    rfl
  | c :: r => by
    have ih := splitD_snoc hd r
    obtain ⟨h, t, e⟩ := splitD_cons r
    rw [e] at ih
    by_cases hc : c = 46
    · subst hc
      rw [List.cons_append, splitD_dot, splitD_dot, ih, e]
      simp
    · rw [List.cons_append]
      cases t with
      | nil =>
        rw [splitD_other hc e]
        have ih' : splitD (r ++ [d]) = [h ++ [d]] := by rw [ih]; rfl
        rw [splitD_other hc ih']
        rfl
      | cons u t =>
        rw [splitD_other hc e]
        have ih' : splitD (r ++ [d]) = h :: ((u :: t).set t.length ((u :: t).getD t.length [] ++ [d])) := by rw [ih]; simp
        rw [splitD_other hc ih']
        simp
end Go.Proofs.YtmondgamackcgaaDoor
