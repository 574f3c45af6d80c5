/- Plain: a text's parts between its points. -/
import Derived.Test.YtmondgamackcgaaDoorVnP
import Derived.Test.YtmondgamackcgaaDoorVnB
namespace Go.Proofs.YtmondgamackcgaaDoor

def splitD : List Nat → List (List Nat)
  | [] => [[]]
  | c :: r => if c = 46 then [] :: splitD r else match splitD r with
    | [] => [[c]]
    | h :: t => (c :: h) :: t
theorem splitD_dot (r : List Nat) : splitD (46 :: r) = [] :: splitD r := by rw [splitD, if_pos rfl]
theorem splitD_other {c : Nat} {r h : List Nat} {t : List (List Nat)} (hc : c ≠ 46) (hr : splitD r = h :: t) : splitD (c :: r) = (c :: h) :: t := by rw [splitD, if_neg hc, hr]
theorem splitD_cons : ∀ (l : List Nat), ∃ h t, splitD l = h :: t
  | [] => ⟨[], [], rfl⟩
  | c :: r => by
    obtain ⟨h, t, e⟩ := splitD_cons r
    by_cases hc : c = 46
    · subst hc; exact ⟨[], _, splitD_dot r⟩
    · exact ⟨_, _, splitD_other hc e⟩
theorem splitD_none : ∀ (l : List Nat), 46 ∉ l → splitD l = [l]
  | [], _ => rfl
  | c :: r, h => splitD_other (fun e => h (by simp [e])) (splitD_none r fun hh => h (by simp [hh]))
theorem splitD_at : ∀ (i : Nat) (l : List Nat), l[i]? = some 46 → (∀ k, k < i → l[k]? ≠ some 46) → splitD l = l.take i :: splitD (l.drop (i + 1))
  | _, [], h, _ => by simp at h
  | 0, c :: r, h, _ => by
    obtain rfl : c = 46 := by simpa using h
    exact splitD_dot r
  | i + 1, c :: r, h, hk => by
    have hc : c ≠ 46 := fun e => hk 0 (by omega) (by simp [e])
    exact splitD_other hc (splitD_at i r (by simpa using h) fun k hh => by have := hk (k + 1) (by omega); simpa using this)
theorem nats_at (s : ByteArray) (k : Nat) : (nats s)[k]? = s.data.toList[k]?.map UInt8.toNat := by unfold nats; rw [List.getElem?_map]
theorem count8 : ∀ (l : List UInt8), l.count 46 = (l.map UInt8.toNat).count 46
  | [] => rfl
  | a :: l => by
    rw [List.map_cons, List.count_cons, List.count_cons, count8 l]
    have : (a == 46) = (a.toNat == 46) := by
      rw [Bool.eq_iff_iff, beq_iff_eq, beq_iff_eq]
      exact ⟨fun h => by rw [h]; rfl, fun h => UInt8.toNat_inj.1 h⟩
    rw [this]
theorem count_nats (s : ByteArray) : Lib.countB s dot = (nats s).count 46 := by
  show Lib.count s.data.toList [46] = _
  rw [Lib.count_one, count8]
  rfl
theorem split_nats : ∀ (k : Nat) (s : ByteArray), Lib.countB s dot = k → (Lib.splitB dot 0 k s).map nats = splitD (nats s)
  | 0, s, h => by
    rw [count_nats, List.count_eq_zero] at h
    rw [splitD_none _ h]
    rfl
  | k + 1, s, h => by
    rcases Lib.indexB_cases s dot with hm | ⟨i, hi, hr⟩
    · rw [Lib.countB_miss s dot hm] at h
      cases h
    · have hc := Lib.countB_hit s dot i (by decide) hi
      have hz : dot.size = 1 := rfl
      rw [hz] at hc hr
      have hb : Lib.indexByte s.data.toList 46 = i := by
        rw [← hi, Lib.one s dot rfl]
        rfl
      obtain ⟨g1, g2⟩ := Lib.indexByte_some hb
      rw [Lib.splitB_hit dot 0 k s i hi, hz, List.map_cons, split_nats k (s.extract (i + 1) s.size) (by omega), nats_extract, nats_extract, List.drop_zero, Nat.sub_zero, Nat.add_zero]
      rw [List.take_of_length_le (l := (nats s).drop (i + 1)) (by rw [List.length_drop, nats_len]; exact Nat.le_refl _)]
      refine (splitD_at i (nats s) (by rw [nats_at, g1]; rfl) fun j hj hh => ?_).symm
      rw [nats_at] at hh
      cases hx : s.data.toList[j]? with
      | none => rw [hx] at hh; cases hh
      | some x =>
        rw [hx] at hh
        injection hh with hh
        exact g2 j hj (by rw [hx, UInt8.toNat_inj.1 (show x.toNat = (46 : UInt8).toNat from hh)])
theorem splitD_name (l : List Nat) : ∀ b, nameL b l = true → ∃ h t, splitD l = h :: t ∧ nameL b h = true ∧ ∀ x ∈ t, nameL false x = true := by
  refine step_ind (P := fun l => ∀ b, nameL b l = true → ∃ h t, splitD l = h :: t ∧ nameL b h = true ∧ ∀ x ∈ t, nameL false x = true) ?_ ?_ ?_ ?_ l
  · intro b h
    exact ⟨[], [], rfl, h, fun x hx => by cases hx⟩
  · intro c r hw ih b h
    rw [name_word hw] at h
    obtain ⟨p, t, e, hp, ht⟩ := ih true h
    exact ⟨c :: p, t, splitD_other (fun hc => by rw [hc, word_46] at hw; cases hw) e, by rw [name_word hw]; exact hp, ht⟩
  · intro x y r hx hy ih b h
    rw [name_trip (trip_three hx hy r)] at h
    obtain ⟨p, t, e, hp, ht⟩ := ih true h
    have wx : x ≠ 46 := fun hc => by have := hex_word hx; rw [hc, word_46] at this; cases this
    have wy : y ≠ 46 := fun hc => by have := hex_word hy; rw [hc, word_46] at this; cases this
    refine ⟨37 :: x :: y :: p, t, splitD_other (by decide) (splitD_other wx (splitD_other wy e)), ?_, ht⟩
    rw [name_trip (trip_three hx hy p)]
    exact hp
  · intro c r hw ht ih b h
    rw [name_dot hw ht] at h
    simp at h
    obtain ⟨⟨rfl, rfl⟩, h⟩ := h
    obtain ⟨p, t, e, hp, ht'⟩ := ih false h
    refine ⟨[], p :: t, by rw [splitD_dot, e], rfl, fun x hx => ?_⟩
    rcases List.mem_cons.1 hx with rfl | hx
    · exact hp
    · exact ht' x hx
theorem splitD_parts : ∀ (l : List Nat), ∀ x ∈ splitD l, 46 ∉ x ∧ x.length ≤ l.length
  | [], x, hx => by
    obtain rfl : x = [] := by simpa [splitD] using hx
    exact ⟨by simp, Nat.le_refl _⟩
  | c :: r, x, hx => by
    obtain ⟨h, t, e⟩ := splitD_cons r
    have ih := splitD_parts r
    rw [e] at ih
    by_cases hc : c = 46
    · subst hc
      rw [splitD_dot, e] at hx
      rcases List.mem_cons.1 hx with rfl | hx
      · exact ⟨by simp, by simp⟩
      · have := ih x hx
        exact ⟨this.1, by simp; omega⟩
    · rw [splitD_other hc e] at hx
      rcases List.mem_cons.1 hx with rfl | hx
      · have := ih h (by simp)
        exact ⟨by simp; exact ⟨fun e => hc e.symm, this.1⟩, by simp; omega⟩
      · have := ih x (by simp [hx])
        exact ⟨this.1, by simp; omega⟩
theorem splitD_join : ∀ (l h : List Nat) (t : List (List Nat)), splitD l = h :: t → h ++ t.flatMap (fun x => 46 :: x) = l
  | [], h, t, e => by
    injection e with e1 e2
    rw [← e1, ← e2]
    rfl
  | c :: r, h, t, e => by
    obtain ⟨p, q, e'⟩ := splitD_cons r
    have ih := splitD_join r p q e'
    by_cases hc : c = 46
    · subst hc
      rw [splitD_dot, e'] at e
      injection e with e1 e2
      rw [← e1, ← e2, List.nil_append, List.flatMap_cons, List.cons_append, ih]
    · rw [splitD_other hc e'] at e
      injection e with e1 e2
      rw [← e1, ← e2, List.cons_append, ih]
theorem splitD_len : ∀ (l : List Nat), (splitD l).length = l.count 46 + 1
  | [] => rfl
  | c :: r => by
    have ih := splitD_len r
    by_cases hc : c = 46
    · subst hc
      rw [splitD_dot, List.length_cons, ih, List.count_cons_self]
    · obtain ⟨p, q, e'⟩ := splitD_cons r
      rw [splitD_other hc e', List.length_cons]
      rw [e', List.length_cons] at ih
      rw [ih, List.count_cons_of_ne (fun h => hc h)]
theorem count_oth : ∀ (l : List Nat), (l.map othN).count 46 = l.count 46
  | [] => rfl
  | c :: r => by
    rw [List.map_cons, List.count_cons, List.count_cons, count_oth r]
    have : (othN c == 46) = (c == 46) := by rw [Bool.eq_iff_iff, beq_iff_eq, beq_iff_eq]; exact oth_46 c
    rw [this]
end Go.Proofs.YtmondgamackcgaaDoor
