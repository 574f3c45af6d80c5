/- Plain: names of variables; no Go in sight. -/
import Derived.Test.YtmondgamackcgaaDoorVnA
namespace Go.Proofs.YtmondgamackcgaaDoor

/-- A name, or, behind a character, a name's rest. -/
def nameS : Nat → Bool → List Nat → Bool
  | _, b, [] => b
  | k + 1, b, _ :: r => nameS k b r
  | 0, b, c :: r => if wordN c = true then nameS 0 true r else if (trip (c :: r)).isSome = true then nameS 2 true r else decide (c = 46) && b && nameS 0 false r
abbrev nameL (b : Bool) (l : List Nat) : Bool := nameS 0 b l
theorem word_46 : wordN 46 = false := rfl
theorem word_37 : wordN 37 = false := rfl
theorem name_word {b : Bool} {c : Nat} {r : List Nat} (h : wordN c = true) : nameL b (c :: r) = nameL true r := by show nameS 0 b (c :: r) = _; rw [nameS, if_pos h]
theorem name_trip {b : Bool} {l : List Nat} (h : (trip l).isSome = true) : nameL b l = nameL true (l.drop 3) := by
  obtain ⟨v, hv⟩ := Option.isSome_iff_exists.1 h
  obtain ⟨x, y, r, _, _, rfl, _⟩ := trip_cons hv
  show nameS 0 b _ = _
  rw [nameS, if_neg (by decide), if_pos h]
  rfl
theorem name_dot {b : Bool} {c : Nat} {r : List Nat} (h : wordN c = false) (ht : (trip (c :: r)).isSome = false) : nameL b (c :: r) = (decide (c = 46) && b && nameL false r) := by
  show nameS 0 b (c :: r) = _
  rw [nameS, if_neg (by rw [h]; decide), if_neg (by rw [ht]; decide)]
theorem trip_46 (r : List Nat) : (trip (46 :: r)).isSome = false := by rw [trip_first (by decide)]; rfl
theorem name_46 (b : Bool) (r : List Nat) : nameL b (46 :: r) = (b && nameL false r) := by
  rw [name_dot word_46 (trip_46 r)]
  simp
theorem trip_len {l : List Nat} (h : (trip l).isSome = true) : ∃ a b r, l = 37 :: a :: b :: r ∧ (hexV a).isSome = true ∧ (hexV b).isSome = true := by
  obtain ⟨v, hv⟩ := Option.isSome_iff_exists.1 h
  obtain ⟨a, b, r, x, y, e, hx, hy, _⟩ := trip_cons hv
  exact ⟨a, b, r, e, by rw [hx]; rfl, by rw [hy]; rfl⟩
theorem trip_three {a b : Nat} (ha : (hexV a).isSome = true) (hb : (hexV b).isSome = true) (r : List Nat) : (trip (37 :: a :: b :: r)).isSome = true := by
  obtain ⟨x, hx⟩ := Option.isSome_iff_exists.1 ha
  obtain ⟨y, hy⟩ := Option.isSome_iff_exists.1 hb
  rw [trip_hex hx hy]
  rfl
/-- Over a list: a byte of a word, a triplet, or another one. -/
theorem step_ind {P : List Nat → Prop} (h0 : P []) (hw : ∀ c r, wordN c = true → P r → P (c :: r)) (h3 : ∀ a b r, (hexV a).isSome = true → (hexV b).isSome = true → P r → P (37 :: a :: b :: r)) (h1 : ∀ c r, wordN c = false → (trip (c :: r)).isSome = false → P r → P (c :: r)) (l : List Nat) : P l := by
  suffices h : ∀ n (l : List Nat), l.length ≤ n → P l from h l.length l (Nat.le_refl _)
  intro n
  induction n with
  | zero =>
    intro l hl
    obtain rfl : l = [] := List.eq_nil_of_length_eq_zero (by omega)
    exact h0
  | succ n ih =>
    intro l hl
    match l, hl with
    | [], _ => exact h0
    | c :: r, hl =>
      cases hc : wordN c with
      | true => exact hw c r hc (ih r (by simp at hl; omega))
      | false =>
        cases ht : (trip (c :: r)).isSome with
        | false => exact h1 c r hc ht (ih r (by simp at hl; omega))
        | true =>
          obtain ⟨a, b, r', e, ha, hb⟩ := trip_len ht
          rw [e] at hl ⊢
          exact h3 a b r' ha hb (ih r' (by simp at hl; omega))
/-- Behind a name goes on what is behind it. -/
theorem name_app (x : List Nat) (l : List Nat) : ∀ b, nameL b l = true → nameL b (l ++ x) = nameL true x := by
  refine step_ind (P := fun l => ∀ b, nameL b l = true → nameL b (l ++ x) = nameL true x) ?_ ?_ ?_ ?_ l
  · intro b h
    obtain rfl : b = true := h
    rfl
  · intro c r hw ih b h
    rw [name_word hw] at h
    rw [List.cons_append, name_word hw]
    exact ih true h
  · intro p q r hp hq ih b h
    rw [name_trip (trip_three hp hq r)] at h
    show nameL b (37 :: p :: q :: (r ++ x)) = _
    rw [name_trip (trip_three hp hq (r ++ x))]
    exact ih true h
  · intro c r hw ht ih b h
    rw [name_dot hw ht] at h
    simp at h
    obtain ⟨⟨rfl, rfl⟩, h⟩ := h
    rw [List.cons_append, name_46]
    show nameL false (r ++ x) = _
    exact ih false h
theorem name_mono (l : List Nat) (h : nameL false l = true) : nameL true l = true := by
  cases l with
  | nil => rfl
  | cons c r =>
    cases hw : wordN c with
    | true => rw [name_word hw] at h ⊢; exact h
    | false =>
      cases ht : (trip (c :: r)).isSome with
      | true => rw [name_trip ht] at h ⊢; exact h
      | false => rw [name_dot hw ht] at h; simp at h
theorem hex_word {c : Nat} (h : (hexV c).isSome = true) : wordN c = true := by
  obtain ⟨x, hx⟩ := Option.isSome_iff_exists.1 h
  unfold hexV at hx
  unfold wordN
  split at hx
  · simp; omega
  split at hx
  · simp; omega
  split at hx
  · simp; omega
  · cases hx
/-- What stands in a name. -/
theorem name_chars (l : List Nat) : ∀ b, nameL b l = true → ∀ c ∈ l, wordN c = true ∨ c = 46 ∨ c = 37 := by
  refine step_ind (P := fun l => ∀ b, nameL b l = true → ∀ c ∈ l, wordN c = true ∨ c = 46 ∨ c = 37) ?_ ?_ ?_ ?_ l
  · intro b _ c hc; cases hc
  · intro c r hw ih b h d hd
    rw [name_word hw] at h
    rcases List.mem_cons.1 hd with rfl | hd
    · exact .inl hw
    · exact ih true h d hd
  · intro p q r hp hq ih b h d hd
    rw [name_trip (trip_three hp hq r)] at h
    rcases List.mem_cons.1 hd with rfl | hd
    · exact .inr (.inr rfl)
    rcases List.mem_cons.1 hd with rfl | hd
    · exact .inl (hex_word hp)
    rcases List.mem_cons.1 hd with rfl | hd
    · exact .inl (hex_word hq)
    · exact ih true h d hd
  · intro c r hw ht ih b h d hd
    rw [name_dot hw ht] at h
    simp at h
    obtain ⟨⟨rfl, rfl⟩, h⟩ := h
    rcases List.mem_cons.1 hd with rfl | hd
    · exact .inr (.inl rfl)
    · exact ih false h d hd

theorem ends_word {c : Nat} {r : List Nat} {p e : Nat} (h : wordN c = true) : endsS 0 (c :: r) p e = endsS 0 r (p + 1) (p + 1) := by rw [endsS, if_pos h]
theorem ends_dot {r : List Nat} {p e : Nat} (h : 0 < p ∧ p = e) : endsS 0 (46 :: r) p e = endsS 0 r (p + 1) e := by rw [endsS, if_neg (by decide), if_pos ⟨rfl, h⟩]
theorem ends_trip {a b : Nat} {r : List Nat} {p e : Nat} (ha : (hexV a).isSome = true) (hb : (hexV b).isSome = true) : endsS 0 (37 :: a :: b :: r) p e = endsS 0 r (p + 3) (p + 3) := by
  rw [endsS, if_neg (by decide), if_neg (by omega), if_pos (trip_three ha hb r)]
  rfl
theorem ends_stop {c : Nat} {r : List Nat} {p e : Nat} (h : wordN c = false) (h1 : ¬ (c = 46 ∧ 0 < p ∧ p = e)) (h2 : (trip (c :: r)).isSome = false) (h3 : c ≠ 37) : endsS 0 (c :: r) p e = (p, e) := by
  rw [endsS, if_neg (by rw [h]; decide), if_neg h1, if_neg (by rw [h2]; decide), if_neg h3]
theorem ends_pct {r : List Nat} {p e : Nat} (h2 : (trip (37 :: r)).isSome = false) : endsS 0 (37 :: r) p e = (if (hexV (r.getD 0 0)).isSome = true then (p + 2, e) else (p + 1, e)) := by
  rw [endsS, if_neg (by decide), if_neg (by omega), if_neg (by rw [h2]; decide), if_pos rfl]
/-- Behind a name. -/
theorem ends_app (x : List Nat) (l : List Nat) : ∀ b p e, nameL b l = true → (b = true → 0 < p ∧ p = e) → endsS 0 (l ++ x) p e = endsS 0 x (p + l.length) (p + l.length) := by
  refine step_ind (P := fun l => ∀ b p e, nameL b l = true → (b = true → 0 < p ∧ p = e) → endsS 0 (l ++ x) p e = endsS 0 x (p + l.length) (p + l.length)) ?_ ?_ ?_ ?_ l
  · intro b p e h hb
    obtain rfl : b = true := h
    rw [← (hb rfl).2]
    rfl
  · intro c r hw ih b p e h hb
    rw [name_word hw] at h
    rw [List.cons_append, ends_word hw, ih true _ _ h (fun _ => ⟨by omega, rfl⟩), List.length_cons, show p + 1 + r.length = p + (r.length + 1) from by omega]
  · intro a b r ha hb ih b' p e h _
    rw [name_trip (trip_three ha hb r)] at h
    show endsS 0 (37 :: a :: b :: (r ++ x)) p e = _
    rw [ends_trip ha hb, ih true _ _ h (fun _ => ⟨by omega, rfl⟩)]
    simp only [List.length_cons]
    rw [show p + 3 + r.length = p + (r.length + 1 + 1 + 1) from by omega]
  · intro c r hw ht ih b p e h hb
    rw [name_dot hw ht] at h
    simp at h
    obtain ⟨⟨rfl, rfl⟩, h⟩ := h
    rw [List.cons_append, ends_dot (hb rfl), ih false _ _ h (fun hh => by cases hh), List.length_cons, show p + 1 + r.length = p + (r.length + 1) from by omega]
theorem ends_name {l : List Nat} (h : nameL false l = true) : endsS 0 l 0 0 = (l.length, l.length) := by
  have := ends_app [] l false 0 0 h (fun hh => by cases hh)
  rw [List.append_nil, Nat.zero_add] at this
  exact this
/-- Where it ends, it is one. -/
theorem ends_inv (l : List Nat) : ∀ p e, e ≤ p → p ≤ (endsS 0 l p e).1 ∧ (endsS 0 l p e).1 ≤ p + l.length ∧ (endsS 0 l p e).2 ≤ (endsS 0 l p e).1 ∧ ((endsS 0 l p e).2 = e ∨ ∃ k, 1 ≤ k ∧ k ≤ l.length ∧ (endsS 0 l p e).2 = p + k ∧ nameL (decide (0 < p) && decide (p = e)) (l.take k) = true) := by
  refine step_ind (P := fun l => ∀ p e, e ≤ p → p ≤ (endsS 0 l p e).1 ∧ (endsS 0 l p e).1 ≤ p + l.length ∧ (endsS 0 l p e).2 ≤ (endsS 0 l p e).1 ∧ ((endsS 0 l p e).2 = e ∨ ∃ k, 1 ≤ k ∧ k ≤ l.length ∧ (endsS 0 l p e).2 = p + k ∧ nameL (decide (0 < p) && decide (p = e)) (l.take k) = true)) ?_ ?_ ?_ ?_ l
  · intro p e he
    exact ⟨Nat.le_refl _, Nat.le_refl _, he, .inl rfl⟩
  · intro c r hw ih p e he
    rw [ends_word hw]
    obtain ⟨i1, i2, i3, i4⟩ := ih (p + 1) (p + 1) (Nat.le_refl _)
    refine ⟨by omega, by simp; omega, i3, .inr ?_⟩
    rcases i4 with i4 | ⟨k, k1, k2, k3, k4⟩
    · exact ⟨1, Nat.le_refl _, by simp, i4, by rw [List.take_succ_cons, List.take_zero, name_word hw]; rfl⟩
    · refine ⟨k + 1, by omega, by simp; omega, by omega, ?_⟩
      rw [List.take_succ_cons, name_word hw]
      simpa using k4
  · intro a b r ha hb ih p e he
    rw [ends_trip ha hb]
    obtain ⟨i1, i2, i3, i4⟩ := ih (p + 3) (p + 3) (Nat.le_refl _)
    refine ⟨by omega, by simp; omega, i3, .inr ?_⟩
    rcases i4 with i4 | ⟨k, k1, k2, k3, k4⟩
    · refine ⟨3, by omega, by simp, i4, ?_⟩
      show nameL _ (37 :: a :: b :: []) = true
      rw [name_trip (trip_three ha hb [])]
      rfl
    · refine ⟨k + 3, by omega, by simp; omega, by omega, ?_⟩
      show nameL _ (37 :: a :: b :: r.take k) = true
      rw [name_trip (trip_three ha hb _)]
      simpa using k4
  · intro c r hw ht ih p e he
    by_cases h1 : c = 46 ∧ 0 < p ∧ p = e
    · obtain ⟨rfl, h1⟩ := h1
      rw [ends_dot h1]
      obtain ⟨i1, i2, i3, i4⟩ := ih (p + 1) e (by omega)
      refine ⟨by omega, by simp; omega, i3, ?_⟩
      rcases i4 with i4 | ⟨k, k1, k2, k3, k4⟩
      · exact .inl i4
      · refine .inr ⟨k + 1, by omega, by simp; omega, by omega, ?_⟩
        rw [List.take_succ_cons, name_46]
        have : decide (p + 1 = e) = false := decide_eq_false (by omega)
        rw [this, Bool.and_false] at k4
        rw [k4, decide_eq_true h1.1, decide_eq_true h1.2]
        rfl
    · by_cases h3 : c = 37
      · subst h3
        rw [ends_pct ht]
        cases r with
        | nil =>
          have : (hexV (([] : List Nat).getD 0 0)).isSome = false := rfl
          rw [if_neg (by rw [this]; decide)]
          exact ⟨by simp, by simp, by first | (simp; done) | (simp; omega), .inl rfl⟩
        | cons d r =>
          split
          · exact ⟨by simp, by first | (simp; done) | (simp; omega), by first | (simp; done) | (simp; omega), .inl rfl⟩
          · exact ⟨by simp, by first | (simp; done) | (simp; omega), by first | (simp; done) | (simp; omega), .inl rfl⟩
      · rw [ends_stop hw h1 ht h3]
        exact ⟨Nat.le_refl _, by simp, he, .inl rfl⟩
theorem name_ends {l : List Nat} : nameL false l = true ↔ l ≠ [] ∧ (endsS 0 l 0 0).2 = l.length := by
  constructor
  · intro h
    refine ⟨fun e => (by rw [e] at h; cases h), by rw [ends_name h]⟩
  · rintro ⟨h0, h⟩
    obtain ⟨_, _, _, i4⟩ := ends_inv l 0 0 (Nat.le_refl _)
    rcases i4 with i4 | ⟨k, k1, k2, k3, k4⟩
    · rw [h] at i4
      exact absurd (List.eq_nil_of_length_eq_zero i4) h0
    · rw [h, Nat.zero_add] at k3
      rw [← k3, List.take_length] at k4
      exact k4
/-- Cut off where it stops, and with more behind. -/
theorem ends_cut (l : List Nat) : ∀ p e, e ≤ p → (endsS 0 (l.take ((endsS 0 l p e).1 - p)) p e).1 = (endsS 0 l p e).1 := by
  refine step_ind (P := fun l => ∀ p e, e ≤ p → (endsS 0 (l.take ((endsS 0 l p e).1 - p)) p e).1 = (endsS 0 l p e).1) ?_ ?_ ?_ ?_ l
  · intro p e _; simp [endsS]
  · intro c r hw ih p e he
    rw [ends_word hw]
    have i := (ends_inv r (p + 1) (p + 1) (Nat.le_refl _)).1
    rw [show (endsS 0 r (p + 1) (p + 1)).1 - p = ((endsS 0 r (p + 1) (p + 1)).1 - (p + 1)) + 1 from by omega, List.take_succ_cons, ends_word hw]
    exact ih (p + 1) (p + 1) (Nat.le_refl _)
  · intro a b r ha hb ih p e he
    rw [ends_trip ha hb]
    have i := (ends_inv r (p + 3) (p + 3) (Nat.le_refl _)).1
    rw [show (endsS 0 r (p + 3) (p + 3)).1 - p = ((endsS 0 r (p + 3) (p + 3)).1 - (p + 3)) + 1 + 1 + 1 from by omega, List.take_succ_cons, List.take_succ_cons, List.take_succ_cons, ends_trip ha hb]
    exact ih (p + 3) (p + 3) (Nat.le_refl _)
  · intro c r hw ht ih p e he
    by_cases h1 : c = 46 ∧ 0 < p ∧ p = e
    · obtain ⟨rfl, h1⟩ := h1
      rw [ends_dot h1]
      have i := (ends_inv r (p + 1) e (by omega)).1
      rw [show (endsS 0 r (p + 1) e).1 - p = ((endsS 0 r (p + 1) e).1 - (p + 1)) + 1 from by omega, List.take_succ_cons, ends_dot h1]
      exact ih (p + 1) e (by omega)
    · by_cases h3 : c = 37
      · subst h3
        rw [ends_pct ht]
        cases r with
        | nil =>
          have : (hexV (([] : List Nat).getD 0 0)).isSome = false := rfl
          rw [if_neg (by rw [this]; decide)]
          rw [show (p + 1, e).1 - p = 1 from by show p + 1 - p = 1; omega]
          show (endsS 0 [37] p e).1 = _
          rw [ends_pct rfl, if_neg (by rw [this]; decide)]
        | cons d r =>
          cases hx : (hexV d).isSome with
          | true =>
            rw [if_pos (show (hexV ((d :: r).getD 0 0)).isSome = true from hx)]
            rw [show (p + 2, e).1 - p = 2 from by show p + 2 - p = 2; omega]
            show (endsS 0 [37, d] p e).1 = _
            rw [ends_pct rfl, if_pos (show (hexV (([d] : List Nat).getD 0 0)).isSome = true from hx)]
          | false =>
            rw [if_neg (show ¬ (hexV ((d :: r).getD 0 0)).isSome = true from by rw [show (d :: r).getD 0 0 = d from rfl, hx]; decide)]
            rw [show (p + 1, e).1 - p = 1 from by show p + 1 - p = 1; omega]
            show (endsS 0 [37] p e).1 = _
            rw [ends_pct rfl, if_neg (by rw [show (hexV (([] : List Nat).getD 0 0)).isSome = false from rfl]; decide)]
      · rw [ends_stop hw h1 ht h3, Nat.sub_self]
        rfl
theorem ends_more (x : List Nat) (l : List Nat) : ∀ p e, e ≤ p → (endsS 0 l p e).1 < p + l.length → (endsS 0 (l ++ x) p e).1 = (endsS 0 l p e).1 := by
  refine step_ind (P := fun l => ∀ p e, e ≤ p → (endsS 0 l p e).1 < p + l.length → (endsS 0 (l ++ x) p e).1 = (endsS 0 l p e).1) ?_ ?_ ?_ ?_ l
  · intro p e _ h
    exact absurd h (Nat.lt_irrefl _)
  · intro c r hw ih p e he h
    rw [ends_word hw] at h
    rw [List.cons_append, ends_word hw, ends_word hw]
    exact ih (p + 1) (p + 1) (Nat.le_refl _) (by simp at h; omega)
  · intro a b r ha hb ih p e he h
    rw [ends_trip ha hb] at h
    show (endsS 0 (37 :: a :: b :: (r ++ x)) p e).1 = _
    rw [ends_trip ha hb, ends_trip ha hb]
    exact ih (p + 3) (p + 3) (Nat.le_refl _) (by simp at h; omega)
  · intro c r hw ht ih p e he h
    by_cases h1 : c = 46 ∧ 0 < p ∧ p = e
    · obtain ⟨rfl, h1⟩ := h1
      rw [ends_dot h1] at h
      rw [List.cons_append, ends_dot h1, ends_dot h1]
      exact ih (p + 1) e (by omega) (by simp at h; omega)
    · by_cases h3 : c = 37
      · subst h3
        rw [ends_pct ht] at h ⊢
        cases r with
        | nil =>
          have : (hexV (([] : List Nat).getD 0 0)).isSome = false := rfl
          rw [if_neg (by rw [this]; decide)] at h
          simp at h
        | cons d r =>
          cases hx : (hexV d).isSome with
          | false =>
            have hn : (trip (37 :: d :: (r ++ x))).isSome = false := by
              cases h' : (trip (37 :: d :: (r ++ x))).isSome with
              | false => rfl
              | true =>
                obtain ⟨a, b, r', e', ha, _⟩ := trip_len h'
                injection e' with _ e'
                injection e' with e1 _
                rw [← e1, hx] at ha
                cases ha
            show (endsS 0 (37 :: d :: (r ++ x)) p e).1 = _
            rw [ends_pct hn]
            rfl
          | true =>
            cases r with
            | nil =>
              rw [if_pos (show (hexV ((d :: []).getD 0 0)).isSome = true from hx)] at h
              simp at h
            | cons f r =>
              have hf : (hexV f).isSome = false := by
                cases h' : (hexV f).isSome with
                | false => rfl
                | true => rw [trip_three hx h'] at ht; cases ht
              have hn : (trip (37 :: d :: f :: (r ++ x))).isSome = false := by
                cases h' : (trip (37 :: d :: f :: (r ++ x))).isSome with
                | false => rfl
                | true =>
                  obtain ⟨a, b, r', e', _, hb⟩ := trip_len h'
                  injection e' with _ e'
                  injection e' with _ e'
                  injection e' with e1 _
                  rw [← e1, hf] at hb
                  cases hb
              show (endsS 0 (37 :: d :: f :: (r ++ x)) p e).1 = _
              rw [ends_pct hn]
              rfl
      · rw [ends_stop hw h1 ht h3]
        have hn : (trip (c :: (r ++ x))).isSome = false := by rw [trip_first h3]; rfl
        rw [List.cons_append, ends_stop hw h1 hn h3]

/-- Letters turned. -/
def othN (c : Nat) : Nat := if 97 ≤ c ∧ c ≤ 122 then c - 32 else if 65 ≤ c ∧ c ≤ 90 then c + 32 else c
theorem oth_word (c : Nat) : wordN (othN c) = wordN c := by
  unfold othN wordN
  rw [Bool.eq_iff_iff]
  split
  · simp; omega
  split
  · simp; omega
  · rfl
theorem oth_46 (c : Nat) : othN c = 46 ↔ c = 46 := by unfold othN; split <;> (try split) <;> omega
theorem oth_37 (c : Nat) : othN c = 37 ↔ c = 37 := by unfold othN; split <;> (try split) <;> omega
theorem hexV_some (c : Nat) : (hexV c).isSome = true ↔ (48 ≤ c ∧ c ≤ 57) ∨ (65 ≤ c ∧ c ≤ 70) ∨ (97 ≤ c ∧ c ≤ 102) := by
  unfold hexV
  split
  · simp; omega
  split
  · simp; omega
  split
  · simp; omega
  · simp; omega
theorem oth_hex (c : Nat) : (hexV (othN c)).isSome = (hexV c).isSome := by
  rw [Bool.eq_iff_iff, hexV_some, hexV_some]
  unfold othN
  split
  · omega
  split
  · omega
  · rfl
theorem oth_trip (l : List Nat) : (trip (l.map othN)).isSome = (trip l).isSome := by
  rw [Bool.eq_iff_iff]
  constructor
  · intro h
    obtain ⟨a, b, r, e, ha, hb⟩ := trip_len h
    match l, e with
    | c :: d :: f :: r', e =>
      simp at e
      obtain ⟨e0, e1, e2, _⟩ := e
      rw [oth_37] at e0
      subst e0
      rw [← e1, oth_hex] at ha
      rw [← e2, oth_hex] at hb
      exact trip_three ha hb r'
    | [], e => cases e
    | [_], e => simp at e
    | [_, _], e => simp at e
  · intro h
    obtain ⟨a, b, r, rfl, ha, hb⟩ := trip_len h
    rw [← oth_hex] at ha hb
    exact trip_three ha hb (r.map othN)
theorem ends_oth (l : List Nat) : ∀ p e, endsS 0 (l.map othN) p e = endsS 0 l p e := by
  refine step_ind (P := fun l => ∀ p e, endsS 0 (l.map othN) p e = endsS 0 l p e) ?_ ?_ ?_ ?_ l
  · intro p e; rfl
  · intro c r hw ih p e
    rw [List.map_cons, ends_word (by rw [oth_word]; exact hw), ends_word hw]
    exact ih _ _
  · intro a b r ha hb ih p e
    rw [ends_trip ha hb]
    show endsS 0 (37 :: othN a :: othN b :: r.map othN) p e = _
    rw [ends_trip (by rw [oth_hex]; exact ha) (by rw [oth_hex]; exact hb)]
    exact ih _ _
  · intro c r hw ht ih p e
    have hw' : wordN (othN c) = false := by rw [oth_word]; exact hw
    have ht' : (trip (othN c :: r.map othN)).isSome = false := by rw [← List.map_cons, oth_trip]; exact ht
    rw [List.map_cons]
    by_cases h1 : c = 46 ∧ 0 < p ∧ p = e
    · obtain ⟨rfl, h1⟩ := h1
      show endsS 0 (46 :: r.map othN) p e = _
      rw [ends_dot h1, ends_dot h1]
      exact ih _ _
    · by_cases h3 : c = 37
      · subst h3
        show endsS 0 (37 :: r.map othN) p e = _
        rw [ends_pct ht, ends_pct ht']
        cases r with
        | nil => rfl
        | cons d r =>
          show (if (hexV (othN d)).isSome = true then _ else _) = if (hexV d).isSome = true then _ else _
          rw [oth_hex]
      · rw [ends_stop hw h1 ht h3, ends_stop hw' (by rw [oth_46]; exact h1) ht' (by rw [Ne, oth_37]; exact h3)]
end Go.Proofs.YtmondgamackcgaaDoor
