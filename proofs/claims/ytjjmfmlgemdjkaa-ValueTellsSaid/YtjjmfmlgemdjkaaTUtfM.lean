/- Plain: characters and their bytes, as lists of numbers; no Go in sight. -/
import Derived.Lib.DecodeN
import Derived.Lib.SmallJoins
import Derived.Lib.RabinKarpLaws
namespace Go.Proofs.Ytjjmfmlgemdjkaa
open Go.Lib (decodeN decode_at)

def encN (c : Nat) : List Nat :=
  if c < 128 then [c] else if c < 2048 then [192 + c / 64, 128 + c % 64]
  else if c < 65536 then [224 + c / 4096, 128 + c / 64 % 64, 128 + c % 64]
  else [240 + c / 262144, 128 + c / 4096 % 64, 128 + c / 64 % 64, 128 + c % 64]
def okC (c : Nat) : Prop := c < 55296 ∨ (57344 ≤ c ∧ c ≤ 1114111)
def dec (l : List Nat) : Nat × Nat := decodeN l.length (l.getD 0 0) (l.getD 1 0) (l.getD 2 0) (l.getD 3 0)
def stopL (l : List Nat) : Prop := (dec l).1 = 65533 ∧ (l.length < 3 ∨ l.take 3 ≠ [239, 191, 189])
def nats (s : ByteArray) : List Nat := s.data.toList.map UInt8.toNat

theorem encN_len (c : Nat) : 1 ≤ (encN c).length ∧ (encN c).length ≤ 4 := by
  unfold encN
  repeat' split
  all_goals simp
set_option maxHeartbeats 4000000 in
/-- A character's bytes are told as it. -/
theorem dec_enc (c : Nat) (hc : okC c) (r : List Nat) : dec (encN c ++ r) = (c, (encN c).length) := by
  unfold okC at hc
  unfold encN
  repeat' split
  · simp [dec, decodeN]; omega
  · unfold dec decodeN
    simp
    rw [if_neg (by omega), if_pos (by omega), if_pos (by omega)]
    simp; omega
  · unfold dec decodeN
    simp
    rw [if_neg (by omega), if_neg (by omega), if_pos (by omega), if_pos (by omega)]
    simp; omega
  · unfold dec decodeN
    simp
    rw [if_neg (by omega), if_neg (by omega), if_neg (by omega), if_pos (by omega), if_pos (by omega)]
    simp; omega
theorem stop_enc (c : Nat) (hc : okC c) (r : List Nat) : ¬ stopL (encN c ++ r) := by
  intro h
  obtain ⟨h1, h2⟩ := h
  rw [dec_enc c hc r] at h1
  have h1 : c = 65533 := h1
  subst h1
  rcases h2 with h2 | h2
  · simp [encN] at h2; omega
  · exact h2 (by simp [encN])
theorem enc_inj {c d : Nat} (hc : okC c) (hd : okC d) {r q : List Nat} (h : encN c ++ r = encN d ++ q) : c = d ∧ r = q := by
  have h1 := dec_enc c hc r
  rw [h, dec_enc d hd q] at h1
  injection h1 with h1 _
  subst h1
  exact ⟨rfl, List.append_cancel_left h⟩

set_option maxHeartbeats 8000000 in
/-- Where it does not stop, the bytes of the character that is told stand there. -/
theorem enc_dec (l : List Nat) (hl : l ≠ []) (hb : ∀ b ∈ l, b < 256) (hs : ¬ stopL l) : okC (dec l).1 ∧ l = encN (dec l).1 ++ l.drop (dec l).2 ∧ (dec l).2 = (encN (dec l).1).length := by
  unfold stopL at hs
  have hcl : ∀ x : Nat × Nat, dec l = x → okC x.1 → encN x.1 = l.take x.2 → x.2 ≤ l.length → okC (dec l).1 ∧ l = encN (dec l).1 ++ l.drop (dec l).2 ∧ (dec l).2 = (encN (dec l).1).length := by
    intro x hx h1 h2 h3
    rw [hx]
    refine ⟨h1, by rw [h2, List.take_append_drop], by rw [h2, List.length_take]; omega⟩
  have hno : dec l = (65533, 1) → False := by
    intro h
    apply hs
    rw [h]
    refine ⟨rfl, ?_⟩
    by_cases h3 : l.length < 3
    · exact .inl h3
    · refine .inr fun h4 => ?_
      obtain ⟨q, rfl⟩ : ∃ q, l = [239, 191, 189] ++ q := ⟨l.drop 3, by rw [← h4, List.take_append_drop]⟩
      have := dec_enc 65533 (by unfold okC; omega) q
      rw [show encN 65533 = [239, 191, 189] from by simp [encN], h] at this
      simp at this
  clear hs
  match l, hl, hb with
  | [a], _, hb =>
    have ha := hb a (by simp)
    by_cases h1 : a < 128
    · have e : dec [a] = (a, 1) := by simp [dec, decodeN]; omega
      exact hcl _ e (by unfold okC; omega) (by simp [encN, h1]) (by simp)
    · refine (hno ?_).elim
      unfold dec decodeN
      simp
      omega
  | [a, b], _, hb =>
    have ha := hb a (by simp)
    have hb' := hb b (by simp)
    by_cases h1 : a < 128
    · have e : dec [a, b] = (a, 1) := by simp [dec, decodeN]; omega
      exact hcl _ e (by unfold okC; omega) (by simp [encN, h1]) (by simp)
    · by_cases h2 : (a / 32 = 6 ∧ b / 64 = 2) ∧ a % 32 * 64 + b % 64 ≥ 128
      · have e : dec [a, b] = (a % 32 * 64 + b % 64, 2) := by
          unfold dec decodeN
          simp
          rw [if_neg h1, if_pos h2.1, if_pos h2.2]
        refine hcl _ e (by show okC _; unfold okC; omega) ?_ (by simp)
        show encN (a % 32 * 64 + b % 64) = _
        unfold encN
        rw [if_neg (by omega), if_pos (by omega)]
        simp
        omega
      · refine (hno ?_).elim
        unfold dec decodeN
        simp
        rw [if_neg h1]
        by_cases h3 : a / 32 = 6 ∧ b / 64 = 2
        · rw [if_pos h3, if_neg (by omega)]
        · rw [if_neg h3]
  | [a, b, c], _, hb =>
    have ha := hb a (by simp)
    have hb' := hb b (by simp)
    have hc := hb c (by simp)
    by_cases h1 : a < 128
    · have e : dec [a, b, c] = (a, 1) := by simp [dec, decodeN]; omega
      exact hcl _ e (by unfold okC; omega) (by simp [encN, h1]) (by simp)
    · by_cases h2 : (a / 32 = 6 ∧ b / 64 = 2)
      · by_cases h2' : a % 32 * 64 + b % 64 ≥ 128
        · have e : dec [a, b, c] = (a % 32 * 64 + b % 64, 2) := by
            unfold dec decodeN
            simp
            rw [if_neg h1, if_pos h2, if_pos h2']
          refine hcl _ e (by show okC _; unfold okC; omega) ?_ (by simp)
          show encN (a % 32 * 64 + b % 64) = _
          unfold encN
          rw [if_neg (by omega), if_pos (by omega)]
          simp
          omega
        · refine (hno ?_).elim
          unfold dec decodeN
          simp
          rw [if_neg h1, if_pos h2, if_neg h2']
      · by_cases h3 : (a / 16 = 14 ∧ b / 64 = 2 ∧ c / 64 = 2)
        · by_cases h3' : a % 16 * 4096 + b % 64 * 64 + c % 64 ≥ 2048 ∧ (a % 16 * 4096 + b % 64 * 64 + c % 64 < 55296 ∨ (57344 ≤ a % 16 * 4096 + b % 64 * 64 + c % 64 ∧ a % 16 * 4096 + b % 64 * 64 + c % 64 ≤ 1114111))
          · have e : dec [a, b, c] = (a % 16 * 4096 + b % 64 * 64 + c % 64, 3) := by
              unfold dec decodeN
              simp
              rw [if_neg h1, if_neg h2, if_pos h3, if_pos h3']
            refine hcl _ e h3'.2 ?_ (by simp)
            show encN (a % 16 * 4096 + b % 64 * 64 + c % 64) = _
            unfold encN
            rw [if_neg (by omega), if_neg (by omega), if_pos (by omega)]
            simp
            omega
          · refine (hno ?_).elim
            unfold dec decodeN
            simp
            rw [if_neg h1, if_neg h2, if_pos h3, if_neg h3']
        · refine (hno ?_).elim
          unfold dec decodeN
          simp
          rw [if_neg h1, if_neg h2, if_neg h3]
  | a :: b :: c :: d :: r, _, hb =>
    have ha := hb a (by simp)
    have hb' := hb b (by simp)
    have hc := hb c (by simp)
    have hd := hb d (by simp)
    by_cases h1 : a < 128
    · have e : dec (a :: b :: c :: d :: r) = (a, 1) := by simp [dec, decodeN]; omega
      exact hcl _ e (by unfold okC; omega) (by simp [encN, h1]) (by simp)
    · by_cases h2 : (a / 32 = 6 ∧ b / 64 = 2)
      · by_cases h2' : a % 32 * 64 + b % 64 ≥ 128
        · have e : dec (a :: b :: c :: d :: r) = (a % 32 * 64 + b % 64, 2) := by
            unfold dec decodeN
            simp
            rw [if_neg h1, if_pos h2, if_pos h2']
          refine hcl _ e (by show okC _; unfold okC; omega) ?_ (by simp)
          show encN (a % 32 * 64 + b % 64) = _
          unfold encN
          rw [if_neg (by omega), if_pos (by omega)]
          simp
          omega
        · refine (hno ?_).elim
          unfold dec decodeN
          simp
          rw [if_neg h1, if_pos h2, if_neg h2']
      · by_cases h3 : (a / 16 = 14 ∧ b / 64 = 2 ∧ c / 64 = 2)
        · by_cases h3' : a % 16 * 4096 + b % 64 * 64 + c % 64 ≥ 2048 ∧ (a % 16 * 4096 + b % 64 * 64 + c % 64 < 55296 ∨ (57344 ≤ a % 16 * 4096 + b % 64 * 64 + c % 64 ∧ a % 16 * 4096 + b % 64 * 64 + c % 64 ≤ 1114111))
          · have e : dec (a :: b :: c :: d :: r) = (a % 16 * 4096 + b % 64 * 64 + c % 64, 3) := by
              unfold dec decodeN
              simp
              rw [if_neg h1, if_neg h2, if_pos h3, if_pos h3']
            refine hcl _ e h3'.2 ?_ (by simp)
            show encN (a % 16 * 4096 + b % 64 * 64 + c % 64) = _
            unfold encN
            rw [if_neg (by omega), if_neg (by omega), if_pos (by omega)]
            simp
            omega
          · refine (hno ?_).elim
            unfold dec decodeN
            simp
            rw [if_neg h1, if_neg h2, if_pos h3, if_neg h3']
        · by_cases h4 : (a / 8 = 30 ∧ b / 64 = 2 ∧ c / 64 = 2 ∧ d / 64 = 2)
          · by_cases h4' : a % 8 * 262144 + b % 64 * 4096 + c % 64 * 64 + d % 64 ≥ 65536 ∧ (a % 8 * 262144 + b % 64 * 4096 + c % 64 * 64 + d % 64 < 55296 ∨ (57344 ≤ a % 8 * 262144 + b % 64 * 4096 + c % 64 * 64 + d % 64 ∧ a % 8 * 262144 + b % 64 * 4096 + c % 64 * 64 + d % 64 ≤ 1114111))
            · have e : dec (a :: b :: c :: d :: r) = (a % 8 * 262144 + b % 64 * 4096 + c % 64 * 64 + d % 64, 4) := by
                unfold dec decodeN
                simp
                rw [if_neg h1, if_neg h2, if_neg h3, if_pos h4, if_pos h4']
              refine hcl _ e h4'.2 ?_ (by simp)
              show encN (a % 8 * 262144 + b % 64 * 4096 + c % 64 * 64 + d % 64) = _
              unfold encN
              rw [if_neg (by omega), if_neg (by omega), if_neg (by omega)]
              simp
              omega
            · refine (hno ?_).elim
              unfold dec decodeN
              simp
              rw [if_neg h1, if_neg h2, if_neg h3, if_pos h4, if_neg h4']
          · refine (hno ?_).elim
            unfold dec decodeN
            simp
            rw [if_neg h1, if_neg h2, if_neg h3, if_neg h4]
end Go.Proofs.Ytjjmfmlgemdjkaa

