/- Plain: orders, one by one and of lists; values' kinds and texts; no Go in sight. -/
import Derived.Test.YtjjmfmlgemdjkaaTPValx2
import Derived.Test.YtjjmfmlgemdjkaaTPValx11
namespace Go.Proofs.Ytjjmfmlgemdjkaa.Val
open Go.Proofs.Ytjjmfmlgemdjkaa Go.Proofs.Ytjjmfmlgemdjkaa.PVal

/-- An order, as a number: below 0, 0, above 0. -/
structure Tot {α : Type} (f : α → α → Int) : Prop where
  anti : ∀ a b, f a b = - f b a
  rng : ∀ a b, -1 ≤ f a b ∧ f a b ≤ 1
  zero : ∀ a b, f a b = 0 ↔ a = b
  le : ∀ a b c, f a b ≤ 0 → f b c ≤ 0 → f a c ≤ 0

def lex {α : Type} (f : α → α → Int) : List α → List α → Int
  | [], [] => 0
  | [], _ :: _ => -1
  | _ :: _, [] => 1
  | x :: xs, y :: ys => if f x y = 0 then lex f xs ys else f x y
def two {α β : Type} (f : α → α → Int) (g : β → β → Int) (x y : α × β) : Int := if f x.1 y.1 = 0 then g x.2 y.2 else f x.1 y.1

section
variable {α β : Type} {f : α → α → Int} {g : β → β → Int}
theorem Tot.refl (h : Tot f) (a : α) : f a a = 0 := (h.zero a a).2 rfl
theorem lex_rng (h : Tot f) : ∀ a b, -1 ≤ lex f a b ∧ lex f a b ≤ 1
  | [], [] => by simp [lex]
  | [], _ :: _ => by simp [lex]
  | _ :: _, [] => by simp [lex]
  | x :: xs, y :: ys => by
    unfold lex
    split
    · exact lex_rng h xs ys
    · exact h.rng x y
theorem lex_anti (h : Tot f) : ∀ a b, lex f a b = - lex f b a
  | [], [] => by simp [lex]
  | [], _ :: _ => by simp [lex]
  | _ :: _, [] => by simp [lex]
  | x :: xs, y :: ys => by
    have h1 := h.anti x y
    unfold lex
    by_cases e : f x y = 0
    · rw [if_pos e, if_pos (by omega)]
      exact lex_anti h xs ys
    · rw [if_neg e, if_neg (by omega)]
      exact h1
theorem lex_zero (h : Tot f) : ∀ a b, lex f a b = 0 ↔ a = b
  | [], [] => by simp [lex]
  | [], _ :: _ => by simp [lex]
  | _ :: _, [] => by simp [lex]
  | x :: xs, y :: ys => by
    unfold lex
    by_cases e : f x y = 0
    · rw [if_pos e, lex_zero h xs ys, (h.zero x y).1 e]
      simp
    · rw [if_neg e]
      have : x ≠ y := fun k => e ((h.zero x y).2 k)
      simp [e, this]
theorem lex_le (h : Tot f) : ∀ a b c, lex f a b ≤ 0 → lex f b c ≤ 0 → lex f a c ≤ 0
  | [], _, [], _, _ => by simp [lex]
  | [], _, _ :: _, _, _ => by simp [lex]
  | _ :: _, [], _, h1, _ => by simp [lex] at h1
  | _ :: _, _ :: _, [], _, h2 => by simp [lex] at h2
  | x :: xs, y :: ys, z :: zs, h1, h2 => by
    unfold lex at h1 h2 ⊢
    have a1 := h.anti x y
    have a2 := h.anti y z
    have a3 := h.anti x z
    by_cases e1 : f x y = 0
    · rw [if_pos e1] at h1
      have hxy := (h.zero x y).1 e1
      subst hxy
      by_cases e2 : f x z = 0
      · rw [if_pos e2] at h2 ⊢
        exact lex_le h xs ys zs h1 h2
      · rw [if_neg e2] at h2 ⊢
        exact h2
    · rw [if_neg e1] at h1
      by_cases e2 : f y z = 0
      · have hyz := (h.zero y z).1 e2
        subst hyz
        rw [if_neg e1]
        exact h1
      · rw [if_neg e2] at h2
        have l := h.le x y z h1 h2
        by_cases e3 : f x z = 0
        · have hxz := (h.zero x z).1 e3
          subst hxz
          omega
        · rw [if_neg e3]
          exact l
theorem lex_tot (h : Tot f) : Tot (lex f) := ⟨lex_anti h, lex_rng h, lex_zero h, lex_le h⟩
theorem two_tot (h : Tot f) (k : Tot g) : Tot (two f g) where
  anti := fun x y => by
    have := h.anti x.1 y.1
    unfold two
    by_cases e : f x.1 y.1 = 0
    · rw [if_pos e, if_pos (by omega)]; exact k.anti _ _
    · rw [if_neg e, if_neg (by omega)]; exact this
  rng := fun x y => by
    unfold two
    split
    · exact k.rng _ _
    · exact h.rng _ _
  zero := fun x y => by
    unfold two
    by_cases e : f x.1 y.1 = 0
    · rw [if_pos e, k.zero, Prod.ext_iff]
      exact ⟨fun q => ⟨(h.zero _ _).1 e, q⟩, fun q => q.2⟩
    · rw [if_neg e, Prod.ext_iff]
      exact ⟨fun q => absurd q e, fun q => absurd ((h.zero _ _).2 q.1) e⟩
  le := fun x y z h1 h2 => by
    unfold two at h1 h2 ⊢
    have a1 := h.anti x.1 y.1
    have a3 := h.anti x.1 z.1
    have a2 := h.anti y.1 z.1
    by_cases e1 : f x.1 y.1 = 0
    · rw [if_pos e1] at h1
      have e := (h.zero _ _).1 e1
      rw [e]
      by_cases e2 : f y.1 z.1 = 0
      · rw [if_pos e2] at h2 ⊢
        exact k.le _ _ _ h1 h2
      · rw [if_neg e2] at h2 ⊢
        exact h2
    · rw [if_neg e1] at h1
      by_cases e2 : f y.1 z.1 = 0
      · have e := (h.zero _ _).1 e2
        rw [← e, if_neg e1]
        exact h1
      · rw [if_neg e2] at h2
        have l := h.le _ _ _ h1 h2
        by_cases e3 : f x.1 z.1 = 0
        · have e := (h.zero _ _).1 e3
          rw [← e] at h2 a2
          omega
        · rw [if_neg e3]
          exact l
end

def cmpI (a b : Int) : Int := if a < b then -1 else if a > b then 1 else 0
theorem cmpI_tot : Tot cmpI where
  anti := fun a b => by unfold cmpI; split <;> split <;> (try split) <;> (try split) <;> omega
  rng := fun a b => by unfold cmpI; split <;> (try split) <;> omega
  zero := fun a b => by unfold cmpI; split <;> (try split) <;> omega
  le := fun a b c => by
    unfold cmpI
    intro h1 h2
    split
    · omega
    · split
      · rename_i h3 h4
        split at h1 <;> (try split at h1) <;> split at h2 <;> (try split at h2) <;> omega
      · omega
def cmpN (a b : UInt8) : Int := cmpI (a.toNat : Int) (b.toNat : Int)
theorem cmpN_tot : Tot cmpN where
  anti := fun a b => cmpI_tot.anti _ _
  rng := fun a b => cmpI_tot.rng _ _
  zero := fun a b => by
    unfold cmpN
    rw [cmpI_tot.zero]
    exact ⟨fun h => UInt8.toNat_inj.1 (by omega), fun h => by rw [h]⟩
  le := fun a b c => cmpI_tot.le _ _ _
theorem less_lex : ∀ a b, Op.bytesLess a b = decide (lex cmpN a b < 0)
  | [], [] => by simp [Op.bytesLess, lex]
  | [], _ :: _ => by simp [Op.bytesLess, lex]
  | _ :: _, [] => by simp [Op.bytesLess, lex]
  | x :: xs, y :: ys => by
    rw [Op.bytesLess, less_lex xs ys]
    show _ = decide ((if cmpN x y = 0 then lex cmpN xs ys else cmpN x y) < 0)
    by_cases e : cmpN x y = 0
    · have := (cmpN_tot.zero x y).1 e
      subst this
      rw [if_pos e]
      simp
    · have hne : x ≠ y := fun k => e ((cmpN_tot.zero x y).2 k)
      rw [if_neg e]
      have h1 : (x < y) = (cmpN x y < 0) := by
        unfold cmpN cmpI
        rw [UInt8.lt_iff_toNat_lt]
        refine propext ⟨fun h => ?_, fun h => ?_⟩
        · rw [if_pos (by omega)]; decide
        · split at h
          · omega
          · split at h <;> omega
      have hb : (x == y) = false := beq_eq_false_iff_ne.2 hne
      rw [hb]
      simp [h1]
theorem toList_inj {a b : ByteArray} (h : a.toList = b.toList) : a = b := by
  rw [ByteArray.toList_eq, ByteArray.toList_eq] at h
  have h3 : a.data = b.data := Array.toList_inj.1 h
  cases a; cases b
  exact congrArg _ h3
theorem cmpS_lex (a b : ByteArray) : cmpS a b = lex cmpN a.toList b.toList := by
  have h1 := lex_rng cmpN_tot a.toList b.toList
  have h2 := lex_zero cmpN_tot a.toList b.toList
  unfold cmpS
  rw [less_lex]
  by_cases h : lex cmpN a.toList b.toList < 0
  · rw [if_pos (decide_eq_true h)]
    omega
  · rw [if_neg (by simpa using h)]
    by_cases e : a.toList = b.toList
    · rw [if_pos e, h2.2 e]
    · rw [if_neg e]
      have : lex cmpN a.toList b.toList ≠ 0 := fun k => e (h2.1 k)
      omega
theorem cmpS_tot : Tot cmpS where
  anti := fun a b => by rw [cmpS_lex, cmpS_lex]; exact lex_anti cmpN_tot _ _
  rng := fun a b => by rw [cmpS_lex]; exact lex_rng cmpN_tot _ _
  zero := fun a b => by rw [cmpS_lex, lex_zero cmpN_tot]; exact ⟨toList_inj, fun h => by rw [h]⟩
  le := fun a b c => by rw [cmpS_lex, cmpS_lex, cmpS_lex]; exact lex_le cmpN_tot _ _ _
def cmpL : List ByteArray → List ByteArray → Int := lex cmpS
theorem cmpL_tot : Tot cmpL := lex_tot cmpS_tot
def cmpP : Int × List ByteArray → Int × List ByteArray → Int := two cmpI cmpL
theorem cmpP_tot : Tot cmpP := two_tot cmpI_tot cmpL_tot

abbrev V := Int × ByteArray × List ByteArray × List S76
def texts (v : V) : List ByteArray := textsV v.1 v.2.1 v.2.2.1 v.2.2.2
def canB (v : V) : V × Bool :=
  if v.1 = 1 then ((1, v.2.1, [], []), true)
  else if v.1 = 2 ∧ v.2.2.1 ≠ [] then ((2, ⟨#[]⟩, v.2.2.1, []), true)
  else if v.1 = 3 ∧ v.2.2.2 ≠ [] then ((3, ⟨#[]⟩, [], v.2.2.2), true)
  else ((0, ⟨#[]⟩, [], []), false)
def can (v : V) : V := (canB v).1
def key (v : V) : Int × List ByteArray := ((can v).1, texts v)

theorem flat_get (p : List S76) : ∀ j, (flat76 p).getD (2 * j) ByteArray.empty = (p.getD j ⟨ByteArray.empty, ByteArray.empty⟩).f0 ∧ (flat76 p).getD (2 * j + 1) ByteArray.empty = (p.getD j ⟨ByteArray.empty, ByteArray.empty⟩).f1 := by
  induction p with
  | nil => intro j; simp [flat76]
  | cons x p ih =>
    intro j
    have e : flat76 (x :: p) = x.f0 :: x.f1 :: flat76 p := rfl
    rw [e]
    cases j with
    | zero => exact ⟨rfl, rfl⟩
    | succ j =>
      rw [show 2 * (j + 1) = 2 * j + 1 + 1 from by omega]
      exact ih j
theorem pairs_flat (p : List S76) : pairs76 (flat76 p) = p := by
  unfold pairs76
  rw [flat76_length, Nat.mul_div_cancel_left _ (by omega)]
  refine List.ext_getElem (by simp) fun j h1 h2 => ?_
  obtain ⟨a, b⟩ := flat_get p j
  rw [List.getElem_map, List.getElem_range, a, b]
  simp [List.getD_eq_getElem?_getD, h2]
theorem flat_pos (p : List S76) : 0 < (flat76 p).length ↔ p ≠ [] := by
  rw [flat76_length]
  cases p <;> simp
theorem ofV_texts (v : V) : ofV v.1 (texts v) = ((can v).1, (can v).2.1, (can v).2.2.1, (can v).2.2.2, (canB v).2) := by
  obtain ⟨a, s, l, p⟩ := v
  unfold texts can canB ofV textsV
  by_cases h1 : a = 1
  · simp [h1]
  · by_cases h2 : a = 2
    · by_cases h : l = []
      · simp [h2, h]
      · have : 0 < l.length := List.length_pos_iff.2 h
        simp [h2, h, this]
    · by_cases h3 : a = 3
      · by_cases h : p = []
        · simp [h3, h, flat76]
        · have hl := flat76_length p
          have : 0 < p.length := List.length_pos_iff.2 h
          have e1 : 0 < (flat76 p).length := by omega
          have e2 : (flat76 p).length % 2 = 0 := by omega
          simp [h3, h, pairs_flat, e1, e2]
      · simp [h1, h2, h3]
theorem texts_can (v : V) : texts (can v) = texts v := by
  obtain ⟨a, s, l, p⟩ := v
  unfold texts can canB textsV
  by_cases h1 : a = 1
  · simp [h1]
  · by_cases h2 : a = 2
    · by_cases h : l = [] <;> simp [h2, h]
    · by_cases h3 : a = 3
      · by_cases h : p = [] <;> simp [h3, h, flat76]
      · simp [h1, h2, h3]
theorem defined (v : V) : (canB v).2 = decide (0 < (texts v).length) := by
  obtain ⟨a, s, l, p⟩ := v
  unfold canB texts textsV
  by_cases h1 : a = 1
  · simp [h1]
  · by_cases h2 : a = 2
    · by_cases h : l = []
      · simp [h2, h]
      · have : 0 < l.length := List.length_pos_iff.2 h
        simp [h2, h, this]
    · by_cases h3 : a = 3
      · by_cases h : p = []
        · simp [h3, h, flat76]
        · have := (flat_pos p).2 h
          simp [h3, h, this]
      · simp [h1, h2, h3]
end Go.Proofs.Ytjjmfmlgemdjkaa.Val

