/- Plain: which characters may, and which bytes begin one's. -/
import Derived.Test.YtjjmfmlgemdjkaaUcsD
namespace Go.Proofs.Ytjjmfmlgemdjkaa

/-- A character beyond ASCII that may stand in a literal. -/
def MayP (c : Int) : Prop := (160 ≤ c ∧ c ≤ 55295) ∨ (57344 ≤ c ∧ c ≤ 64975) ∨ (65008 ≤ c ∧ c ≤ 65519) ∨ (65536 ≤ c ∧ c ≤ 1114109 ∧ c % 65536 ≤ 65533 ∧ ¬ (917504 ≤ c ∧ c < 921600))

theorem meets_iff (lo hi : Int) : meetsU lo hi = true ↔ ∃ k, k < 19 ∧ lo ≤ ((highU k : Nat) : Int) ∧ ((lowU k : Nat) : Int) ≤ hi := by
  unfold meetsU meetU
  rw [List.any_eq_true]
  constructor
  · rintro ⟨k, hk, h⟩
    rw [Bool.and_eq_true, decide_eq_true_eq, decide_eq_true_eq] at h
    exact ⟨k, List.mem_range.1 hk, h.1, h.2⟩
  · rintro ⟨k, hk, h1, h2⟩
    exact ⟨k, List.mem_range.2 hk, by rw [Bool.and_eq_true, decide_eq_true_eq, decide_eq_true_eq]; exact ⟨h1, h2⟩⟩
theorem span_may {k : Nat} (hk : k < 19) {c : Int} (h1 : ((lowU k : Nat) : Int) ≤ c) (h2 : c ≤ ((highU k : Nat) : Int)) : MayP c := by
  unfold lowU at h1
  unfold highU at h2
  unfold MayP
  by_cases h : k = 0
  · subst h; simp at h1 h2; omega
  by_cases h' : k = 1
  · subst h'; simp at h1 h2; omega
  by_cases h'' : k = 2
  · subst h''; simp at h1 h2; omega
  rw [if_neg h, if_neg h', if_neg h''] at h1 h2
  split at h1 <;> omega
theorem may_span {c : Int} (h : MayP c) : ∃ k, k < 19 ∧ ((lowU k : Nat) : Int) ≤ c ∧ c ≤ ((highU k : Nat) : Int) := by
  unfold MayP at h
  rcases h with h | h | h | h
  · exact ⟨0, by omega, by simp [lowU]; omega, by simp [highU]; omega⟩
  · exact ⟨1, by omega, by simp [lowU]; omega, by simp [highU]; omega⟩
  · exact ⟨2, by omega, by simp [lowU]; omega, by simp [highU]; omega⟩
  · refine ⟨(c / 65536).toNat + 2, by omega, ?_, ?_⟩
    · unfold lowU
      rw [if_neg (by omega), if_neg (by omega), if_neg (by omega)]
      split <;> omega
    · unfold highU
      rw [if_neg (by omega), if_neg (by omega), if_neg (by omega)]
      omega
theorem span_le (k : Nat) (hk : k < 19) : lowU k ≤ highU k := by
  unfold lowU highU
  repeat' split
  all_goals omega
/-- From lo to hi there is one that may. -/
theorem meets_some (lo hi : Int) (h : lo ≤ hi) : meetsU lo hi = true ↔ ∃ c, lo ≤ c ∧ c ≤ hi ∧ MayP c := by
  rw [meets_iff]
  constructor
  · rintro ⟨k, hk, h1, h2⟩
    have hl := span_le k hk
    by_cases hx : lo ≤ ((lowU k : Nat) : Int)
    · exact ⟨_, hx, h2, span_may hk (Int.le_refl _) (by omega)⟩
    · exact ⟨lo, Int.le_refl _, h, span_may hk (by omega) h1⟩
  · rintro ⟨c, h1, h2, h3⟩
    obtain ⟨k, hk, k1, k2⟩ := may_span h3
    exact ⟨k, hk, by omega, by omega⟩
theorem meets_may (c : Int) : meetsU c c = true ↔ MayP c := by
  rw [meets_some c c (Int.le_refl _)]
  exact ⟨fun ⟨d, h1, h2, h3⟩ => by rw [show c = d from by omega]; exact h3, fun h => ⟨c, Int.le_refl _, Int.le_refl _, h⟩⟩
theorem may_ok {c : Nat} (h : MayP (c : Int)) : okC c ∧ 160 ≤ c := by
  unfold MayP at h
  unfold okC
  omega

/-- What is filled. -/
theorem fill_now {s : ByteArray} {ch : Nat} (hc : okC ch) (h : nats s = encN ch) (c b : Nat) : fillU c (b + 1) s = (ch, true) := by
  have hr := run_valid (s := s) (cs := [ch]) (by rw [h]; simp) (by simp [hc])
  have hz := (encN_len ch).2
  rw [← h, nats_len] at hz
  rw [fillU, if_pos hz, if_pos ⟨hr.2, by rw [hr.1]; rfl⟩, hr.1]
  rfl
theorem one_char {s : ByteArray} (h : badU s = s.size ∧ (charsU s).length = 1) : ∃ ch, okC ch ∧ nats s = encN ch := by
  have hr := run_of s
  rw [h.1, List.drop_eq_nil_of_le (by rw [nats_len]; exact Nat.le_refl _)] at hr
  obtain ⟨ch, hch⟩ := List.length_eq_one_iff.1 h.2
  rw [hch] at hr
  exact ⟨ch, hr.2.1 ch (by simp), by simpa using hr.1⟩
theorem nats_byteS (c : Nat) (hc : c < 256) : nats (byteS c) = [c] := by
  unfold nats byteS
  simp
  omega
theorem fill_yes {ch c : Nat} (hc : okC ch) (hb : c < 256) : ∀ (j : Nat) (s : ByteArray) (b : Nat), nats s ++ List.replicate j c = encN ch → j < b → fillU c b s = (ch, true)
  | 0, s, b, h, hj => by
    obtain ⟨b, rfl⟩ : ∃ m, b = m + 1 := ⟨b - 1, by omega⟩
    exact fill_now hc (by simpa using h) c b
  | j + 1, s, b, h, hj => by
    obtain ⟨b, rfl⟩ : ∃ m, b = m + 1 := ⟨b - 1, by omega⟩
    have hz := (encN_len ch).2
    have hl := congrArg List.length h
    rw [List.length_append, nats_len, List.length_replicate] at hl
    rw [fillU, if_pos (by omega), if_neg]
    · refine fill_yes hc hb j (s ++ byteS c) b ?_ (by omega)
      rw [nats_append, nats_byteS c hb, List.append_assoc, ← h]
      rfl
    · intro hh
      obtain ⟨d, hd, he⟩ := one_char hh
      rw [he] at h
      have := (enc_inj hd hc (r := List.replicate (j + 1) c) (q := []) (by rw [h, List.append_nil])).2
      simp at this
theorem fill_no {c : Nat} (hb : c < 256) : ∀ (b : Nat) (s : ByteArray), (∀ j ch, okC ch → nats s ++ List.replicate j c ≠ encN ch) → fillU c b s = (0, false)
  | 0, s, _ => rfl
  | b + 1, s, h => by
    rw [fillU]
    split
    · rw [if_neg]
      · refine fill_no hb b (s ++ byteS c) fun j ch hc he => h (j + 1) ch hc ?_
        rw [nats_append, nats_byteS c hb, List.append_assoc] at he
        rw [← he]
        rfl
      · intro hh
        obtain ⟨d, hd, he⟩ := one_char hh
        exact h 0 d hd (by simpa using he)
    · rfl
end Go.Proofs.Ytjjmfmlgemdjkaa
