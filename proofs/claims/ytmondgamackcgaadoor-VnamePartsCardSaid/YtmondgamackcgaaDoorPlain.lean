/- Plain lemmas: the words of a set of bytes, no Go in sight. -/
import Derived.Laws.BitsAllLaws
namespace Go.Proofs.YtmondgamackcgaaDoor

/-- The lowest n bits of word k of the set f. -/
def wdn (f : Nat → Bool) (k : Nat) : Nat → Nat
  | 0 => 0
  | n + 1 => wdn f k n + (if f (64 * k + n) then 2 ^ n else 0)
def wd (f : Nat → Bool) (k : Nat) : Nat := wdn f k 64

theorem wdn_lt (f : Nat → Bool) (k : Nat) : ∀ n, wdn f k n < 2 ^ n
  | 0 => by simp [wdn]
  | n + 1 => by
    have := wdn_lt f k n
    simp only [wdn, Nat.pow_succ]
    split <;> omega

theorem wdn_bit (f : Nat → Bool) (k i : Nat) : ∀ n, (wdn f k n).testBit i = (decide (i < n) && f (64 * k + i))
  | 0 => by simp [wdn]
  | n + 1 => by
    have ih := wdn_bit f k i n
    have hl := wdn_lt f k n
    simp only [wdn]
    by_cases hf : f (64 * k + n) = true
    · rw [if_pos hf, Nat.add_comm]
      by_cases hi : i = n
      · subst hi
        rw [Nat.testBit_two_pow_add_eq, ih]; simp [hf]
      · by_cases h : i < n
        · rw [Nat.testBit_two_pow_add_gt h, ih]; simp [h]; omega
        · have h2 : 2 ^ n + wdn f k n < 2 ^ i := by
            have : 2 ^ (n + 1) ≤ 2 ^ i := Nat.pow_le_pow_right (by omega) (by omega)
            rw [Nat.pow_succ] at this; omega
          rw [Nat.testBit_lt_two_pow h2]
          have : ¬ i < n + 1 := by omega
          simp [this]
    · rw [if_neg hf, Nat.add_zero, ih]
      by_cases hi : i = n
      · subst hi; simp [hf]
      · have : (i < n + 1) ↔ (i < n) := by omega
        simp [this]

theorem wd_lt (f : Nat → Bool) (k : Nat) : wd f k < 18446744073709551616 := wdn_lt f k 64
theorem wd_bit (f : Nat → Bool) (k i : Nat) : (wd f k).testBit i = (decide (i < 64) && f (64 * k + i)) := wdn_bit f k i 64

theorem wd_ext {x : Nat} {f : Nat → Bool} {k : Nat} (hx : x < 18446744073709551616) (h : ∀ i, i < 64 → x.testBit i = f (64 * k + i)) : x = wd f k := by
  apply Nat.eq_of_testBit_eq
  intro i
  rw [wd_bit]
  by_cases hi : i < 64
  · simp [hi, h i hi]
  · have : x < 2 ^ i := Nat.lt_of_lt_of_le hx (Nat.pow_le_pow_right (n := 2) (by omega) (show 64 ≤ i by omega))
    rw [Nat.testBit_lt_two_pow this]; simp [hi]

theorem wd_congr {f g : Nat → Bool} {k : Nat} (h : ∀ i, i < 64 → f (64 * k + i) = g (64 * k + i)) : wd f k = wd g k :=
  wd_ext (wd_lt f k) fun i hi => by rw [wd_bit]; simp [hi, h i hi]

theorem wd_inj {f g : Nat → Bool} {k : Nat} (h : wd f k = wd g k) (i : Nat) (hi : i < 64) : f (64 * k + i) = g (64 * k + i) := by
  have e := congrArg (fun n => Nat.testBit n i) h
  simp only [wd_bit] at e
  simpa [hi] using e

/-- Whatever four words are those of a set. -/
def wordsAt (l : List Nat) (n : Nat) : Bool := (l.getD (n / 64) 0).testBit (n % 64)
theorem words_wd (a b c d : Nat) (ha : a < 18446744073709551616) (hb : b < 18446744073709551616) (hc : c < 18446744073709551616) (hd : d < 18446744073709551616) :
    a = wd (wordsAt [a, b, c, d]) 0 ∧ b = wd (wordsAt [a, b, c, d]) 1 ∧ c = wd (wordsAt [a, b, c, d]) 2 ∧ d = wd (wordsAt [a, b, c, d]) 3 := by
  have hw : ∀ k i, i < 64 → wordsAt [a, b, c, d] (64 * k + i) = ([a, b, c, d].getD k 0).testBit i := fun k i hi => by
    unfold wordsAt; rw [show (64 * k + i) / 64 = k by omega, show (64 * k + i) % 64 = i by omega]
  exact ⟨wd_ext ha fun i hi => by rw [hw 0 i hi]; rfl, wd_ext hb fun i hi => by rw [hw 1 i hi]; rfl, wd_ext hc fun i hi => by rw [hw 2 i hi]; rfl, wd_ext hd fun i hi => by rw [hw 3 i hi]; rfl⟩

theorem exists_set (a b c d : Int) (ha : 0 ≤ a ∧ a ≤ 18446744073709551615) (hb : 0 ≤ b ∧ b ≤ 18446744073709551615) (hc : 0 ≤ c ∧ c ≤ 18446744073709551615) (hd : 0 ≤ d ∧ d ≤ 18446744073709551615) :
    ∃ f : Nat → Bool, a = (wd f 0 : Int) ∧ b = (wd f 1 : Int) ∧ c = (wd f 2 : Int) ∧ d = (wd f 3 : Int) := by
  obtain ⟨a, rfl⟩ := Int.eq_ofNat_of_zero_le ha.1
  obtain ⟨b, rfl⟩ := Int.eq_ofNat_of_zero_le hb.1
  obtain ⟨c, rfl⟩ := Int.eq_ofNat_of_zero_le hc.1
  obtain ⟨d, rfl⟩ := Int.eq_ofNat_of_zero_le hd.1
  obtain ⟨e0, e1, e2, e3⟩ := words_wd a b c d (by omega) (by omega) (by omega) (by omega)
  exact ⟨_, congrArg Int.ofNat e0, congrArg Int.ofNat e1, congrArg Int.ofNat e2, congrArg Int.ofNat e3⟩

/-- Bit c of a set, by its word, as the walk spells it. -/
theorem has_bit (f : Nat → Bool) (c : Nat) : (bits .and .u64 ((wd f (c / 64) : Int) / 2 ^ (c % 64)) 1 == 1) = f c := by
  have h1 : ((wd f (c / 64) : Int) / 2 ^ (c % 64)) = ((wd f (c / 64) / 2 ^ (c % 64) : Nat) : Int) := by
    simp [Int.natCast_ediv, Int.natCast_pow]
  have h2 : wd f (c / 64) / 2 ^ (c % 64) < 18446744073709551616 := Nat.lt_of_le_of_lt (Nat.div_le_self _ _) (wd_lt _ _)
  rw [h1, show (1 : Int) = ((1 : Nat) : Int) from rfl, u64_and_nat _ _ h2 (by omega), nat_mask1]
  have h3 := Nat.testBit_eq_decide_div_mod_eq (x := wd f (c / 64)) (i := c % 64)
  rw [wd_bit] at h3
  have h4 : c % 64 < 64 := by omega
  have h5 : 64 * (c / 64) + c % 64 = c := by omega
  rw [h5] at h3
  simp only [h4, decide_true, Bool.true_and] at h3
  rw [h3]
  by_cases h : wd f (c / 64) / 2 ^ (c % 64) % 2 = 1
  · simp [h]
  · simp [h]; omega

theorem wd_or (f g : Nat → Bool) (k : Nat) : bits .or .u64 (wd f k : Int) (wd g k : Int) = (wd (fun n => f n || g n) k : Int) := by
  rw [u64_or_nat _ _ (wd_lt f k) (wd_lt g k)]
  congr 1
  exact wd_ext (Nat.or_lt_two_pow (n := 64) (wd_lt f k) (wd_lt g k)) fun i hi => by rw [Nat.testBit_or, wd_bit, wd_bit]; simp [hi]

theorem nat_andNot_bit (x i : Nat) (hx : x < 18446744073709551616) (hi : i < 64) : (18446744073709551615 - x).testBit i = !x.testBit i := by
  have h := Nat.testBit_two_pow_sub_succ (n := 64) (x := x) hx i
  rw [show (2 : Nat) ^ 64 - (x + 1) = 18446744073709551615 - x by omega] at h
  simpa [hi] using h

theorem wd_andNot (f g : Nat → Bool) (k : Nat) : bits .andNot .u64 (wd f k : Int) (wd g k : Int) = (wd (fun n => f n && !g n) k : Int) := by
  rw [u64_andNot_nat _ _ (wd_lt f k) (wd_lt g k)]
  congr 1
  refine wd_ext (Nat.lt_of_le_of_lt Nat.and_le_left (wd_lt f k)) fun i hi => ?_
  rw [Nat.testBit_and, nat_andNot_bit _ _ (wd_lt g k) hi, wd_bit, wd_bit]
  simp [hi]

theorem wd_none (k : Nat) : wd (fun _ => false) k = 0 := (wd_ext (by omega) (fun i _ => by simp)).symm

/-- One bit more. -/
theorem wd_add (f : Nat → Bool) (k b : Nat) (hb : b < 64) : bits .or .u64 (wd f k : Int) ((2 ^ b : Nat) : Int) = (wd (fun n => f n || n == 64 * k + b) k : Int) := by
  have h2 : 2 ^ b < 18446744073709551616 := Nat.pow_lt_pow_right (by omega) hb
  rw [u64_or_nat _ _ (wd_lt f k) h2]
  congr 1
  refine wd_ext (Nat.or_lt_two_pow (n := 64) (wd_lt f k) h2) fun i hi => ?_
  rw [Nat.testBit_or, wd_bit, Nat.testBit_two_pow]
  by_cases h : b = i
  · subst h; simp [hi]
  · have h' : ¬ 64 * k + i = 64 * k + b := by omega
    simp [hi, h]; omega

theorem wd_other (f : Nat → Bool) (k c : Nat) (h : c / 64 ≠ k) : wd (fun n => f n || n == c) k = wd f k :=
  wd_congr fun i hi => by
    have : ¬ 64 * k + i = c := by omega
    simp [this]

end Go.Proofs.YtmondgamackcgaaDoor
