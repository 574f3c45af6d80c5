/- Plain: the characters whose bytes begin so are those from a low one to a high one. -/
import Derived.Test.YtjjmfmlgemdjkaaUcsM
namespace Go.Proofs.Ytjjmfmlgemdjkaa

def lowL (l : List Nat) : List Nat := if l = [224] then [224, 160] else if l = [240] then [240, 144] else l
def highL (l : List Nat) : List Nat := if l = [237] then [237, 159] else if l = [244] then [244, 143] else l
/-- l's bytes are the begin of just the characters from lo to hi. -/
structure Ends (l : List Nat) (lo hi : Nat) : Prop where
  okl : okC lo
  okh : okC hi
  le : lo ≤ hi
  low : ∃ j, j < 6 ∧ lowL l ++ List.replicate j 128 = encN lo
  high : ∃ j, j < 6 ∧ highL l ++ List.replicate j 191 = encN hi
  all : ∀ c, okC c → (l <+: encN c ↔ lo ≤ c ∧ c ≤ hi)
def Begs (l : List Nat) : Prop := ∃ c, okC c ∧ l <+: encN c

theorem pre1 (a : Nat) (c : Nat) : [a] <+: encN c ↔ (c < 128 ∧ c = a) ∨ (128 ≤ c ∧ c < 2048 ∧ 192 + c / 64 = a) ∨ (2048 ≤ c ∧ c < 65536 ∧ 224 + c / 4096 = a) ∨ (65536 ≤ c ∧ 240 + c / 262144 = a) := by
  unfold encN
  repeat' split
  all_goals simp only [List.cons_prefix_cons, List.nil_prefix, and_true]
  all_goals omega
theorem pre2 (a b : Nat) (c : Nat) : [a, b] <+: encN c ↔ (128 ≤ c ∧ c < 2048 ∧ 192 + c / 64 = a ∧ 128 + c % 64 = b) ∨ (2048 ≤ c ∧ c < 65536 ∧ 224 + c / 4096 = a ∧ 128 + c / 64 % 64 = b) ∨ (65536 ≤ c ∧ 240 + c / 262144 = a ∧ 128 + c / 4096 % 64 = b) := by
  unfold encN
  repeat' split
  all_goals simp only [List.cons_prefix_cons, List.nil_prefix, and_true, List.prefix_nil, reduceCtorEq, and_false]
  all_goals first | omega | (simp only [false_iff]; omega)
theorem pre3 (a b d : Nat) (c : Nat) : [a, b, d] <+: encN c ↔ (2048 ≤ c ∧ c < 65536 ∧ 224 + c / 4096 = a ∧ 128 + c / 64 % 64 = b ∧ 128 + c % 64 = d) ∨ (65536 ≤ c ∧ 240 + c / 262144 = a ∧ 128 + c / 4096 % 64 = b ∧ 128 + c / 64 % 64 = d) := by
  unfold encN
  repeat' split
  all_goals simp only [List.cons_prefix_cons, List.nil_prefix, and_true, List.prefix_nil, reduceCtorEq, and_false]
  all_goals first | omega | (simp only [false_iff]; omega)
theorem pre4 (a b d e : Nat) (c : Nat) : [a, b, d, e] <+: encN c ↔ (65536 ≤ c ∧ 240 + c / 262144 = a ∧ 128 + c / 4096 % 64 = b ∧ 128 + c / 64 % 64 = d ∧ 128 + c % 64 = e) := by
  unfold encN
  repeat' split
  all_goals simp only [List.cons_prefix_cons, List.nil_prefix, and_true, List.prefix_nil, reduceCtorEq, and_false]
  all_goals first | omega | (simp only [false_iff]; omega)
theorem pre5 (a b d e f : Nat) (r : List Nat) (c : Nat) : ¬ (a :: b :: d :: e :: f :: r) <+: encN c := by
  intro h
  have := h.length_le
  have := (encN_len c).2
  simp at *
  omega
theorem enc2 {c : Nat} (h : 128 ≤ c) (h' : c < 2048) : encN c = [192 + c / 64, 128 + c % 64] := by unfold encN; rw [if_neg (by omega), if_pos h']
theorem enc3 {c : Nat} (h : 2048 ≤ c) (h' : c < 65536) : encN c = [224 + c / 4096, 128 + c / 64 % 64, 128 + c % 64] := by unfold encN; rw [if_neg (by omega), if_neg (by omega), if_pos h']
theorem enc4 {c : Nat} (h : 65536 ≤ c) : encN c = [240 + c / 262144, 128 + c / 4096 % 64, 128 + c / 64 % 64, 128 + c % 64] := by unfold encN; rw [if_neg (by omega), if_neg (by omega), if_neg (by omega)]

set_option maxHeartbeats 4000000 in
theorem ends1 (a : Nat) (ha : a < 256) (h192 : 192 ≤ a) (h : Begs [a]) : ∃ lo hi, Ends [a] lo hi := by
  obtain ⟨c, hc, hp⟩ := h
  rw [pre1] at hp
  unfold okC at hc
  have hr : (194 ≤ a ∧ a ≤ 223) ∨ a = 224 ∨ (225 ≤ a ∧ a ≤ 239 ∧ a ≠ 237) ∨ a = 237 ∨ a = 240 ∨ (241 ≤ a ∧ a ≤ 243) ∨ a = 244 := by omega
  clear hp hc
  rcases hr with h | h | h | h | h | h | h
  · refine ⟨(a - 192) * 64, (a - 192) * 64 + 63, by unfold okC; omega, by unfold okC; omega, by omega, ⟨1, by omega, ?_⟩, ⟨1, by omega, ?_⟩, fun c hc => ?_⟩
    · rw [enc2 (by omega) (by omega)]; unfold lowL; rw [if_neg (by simp; omega), if_neg (by simp; omega)]; simp; omega
    · rw [enc2 (by omega) (by omega)]; unfold highL; rw [if_neg (by simp; omega), if_neg (by simp; omega)]; simp; omega
    · unfold okC at hc; rw [pre1]; omega
  · subst h
    refine ⟨2048, 4095, by unfold okC; omega, by unfold okC; omega, by omega, ⟨1, by omega, rfl⟩, ⟨2, by omega, rfl⟩, fun c hc => ?_⟩
    unfold okC at hc; rw [pre1]; omega
  · refine ⟨(a - 224) * 4096, (a - 224) * 4096 + 4095, by unfold okC; omega, by unfold okC; omega, by omega, ⟨2, by omega, ?_⟩, ⟨2, by omega, ?_⟩, fun c hc => ?_⟩
    · rw [enc3 (by omega) (by omega)]; unfold lowL; rw [if_neg (by simp; omega), if_neg (by simp; omega)]; simp [List.replicate]; omega
    · rw [enc3 (by omega) (by omega)]; unfold highL; rw [if_neg (by simp; omega), if_neg (by simp; omega)]; simp [List.replicate]; omega
    · unfold okC at hc; rw [pre1]; omega
  · subst h
    refine ⟨53248, 55295, by unfold okC; omega, by unfold okC; omega, by omega, ⟨2, by omega, rfl⟩, ⟨1, by omega, rfl⟩, fun c hc => ?_⟩
    unfold okC at hc; rw [pre1]; omega
  · subst h
    refine ⟨65536, 262143, by unfold okC; omega, by unfold okC; omega, by omega, ⟨2, by omega, rfl⟩, ⟨3, by omega, rfl⟩, fun c hc => ?_⟩
    unfold okC at hc; rw [pre1]; omega
  · refine ⟨(a - 240) * 262144, (a - 240) * 262144 + 262143, by unfold okC; omega, by unfold okC; omega, by omega, ⟨3, by omega, ?_⟩, ⟨3, by omega, ?_⟩, fun c hc => ?_⟩
    · rw [enc4 (by omega)]; unfold lowL; rw [if_neg (by simp; omega), if_neg (by simp; omega)]; simp [List.replicate]; omega
    · rw [enc4 (by omega)]; unfold highL; rw [if_neg (by simp; omega), if_neg (by simp; omega)]; simp [List.replicate]; omega
    · unfold okC at hc; rw [pre1]; omega
  · subst h
    refine ⟨1048576, 1114111, by unfold okC; omega, by unfold okC; omega, by omega, ⟨3, by omega, rfl⟩, ⟨2, by omega, rfl⟩, fun c hc => ?_⟩
    unfold okC at hc; rw [pre1]; omega

set_option maxHeartbeats 4000000 in
theorem ends2 (a b : Nat) (h : Begs [a, b]) (h192 : 192 ≤ a) : ∃ lo hi, Ends [a, b] lo hi := by
  obtain ⟨c, hc, hp⟩ := h
  rw [pre2] at hp
  unfold okC at hc
  have hl : lowL [a, b] = [a, b] := by unfold lowL; rw [if_neg (by simp), if_neg (by simp)]
  have hh : highL [a, b] = [a, b] := by unfold highL; rw [if_neg (by simp), if_neg (by simp)]
  have hr : (194 ≤ a ∧ a ≤ 223 ∧ 128 ≤ b ∧ b ≤ 191) ∨ (224 ≤ a ∧ a ≤ 239 ∧ 128 ≤ b ∧ b ≤ 191 ∧ (a = 224 → 160 ≤ b) ∧ (a = 237 → b ≤ 159)) ∨ (240 ≤ a ∧ a ≤ 244 ∧ 128 ≤ b ∧ b ≤ 191 ∧ (a = 240 → 144 ≤ b) ∧ (a = 244 → b ≤ 143)) := by omega
  clear hp hc
  rcases hr with h | h | h
  · refine ⟨(a - 192) * 64 + (b - 128), (a - 192) * 64 + (b - 128), by unfold okC; omega, by unfold okC; omega, by omega, ⟨0, by omega, ?_⟩, ⟨0, by omega, ?_⟩, fun c hc => ?_⟩
    · rw [enc2 (by omega) (by omega), hl]; simp; omega
    · rw [enc2 (by omega) (by omega), hh]; simp; omega
    · unfold okC at hc; rw [pre2]; omega
  · refine ⟨((a - 224) * 64 + (b - 128)) * 64, ((a - 224) * 64 + (b - 128)) * 64 + 63, by unfold okC; omega, by unfold okC; omega, by omega, ⟨1, by omega, ?_⟩, ⟨1, by omega, ?_⟩, fun c hc => ?_⟩
    · rw [enc3 (by omega) (by omega), hl]; simp; omega
    · rw [enc3 (by omega) (by omega), hh]; simp; omega
    · unfold okC at hc; rw [pre2]; omega
  · refine ⟨((a - 240) * 64 + (b - 128)) * 4096, ((a - 240) * 64 + (b - 128)) * 4096 + 4095, by unfold okC; omega, by unfold okC; omega, by omega, ⟨2, by omega, ?_⟩, ⟨2, by omega, ?_⟩, fun c hc => ?_⟩
    · rw [enc4 (by omega), hl]; simp [List.replicate]; omega
    · rw [enc4 (by omega), hh]; simp [List.replicate]; omega
    · unfold okC at hc; rw [pre2]; omega
set_option maxHeartbeats 4000000 in
theorem ends3 (a b d : Nat) (h : Begs [a, b, d]) (h192 : 192 ≤ a) : ∃ lo hi, Ends [a, b, d] lo hi := by
  obtain ⟨c, hc, hp⟩ := h
  have hl : lowL [a, b, d] = [a, b, d] := by unfold lowL; rw [if_neg (by simp), if_neg (by simp)]
  have hh : highL [a, b, d] = [a, b, d] := by unfold highL; rw [if_neg (by simp), if_neg (by simp)]
  rw [pre3] at hp
  unfold okC at hc
  rcases hp with h | h
  · refine ⟨c, c, hc, hc, Nat.le_refl _, ⟨0, by omega, ?_⟩, ⟨0, by omega, ?_⟩, fun e he => ?_⟩
    · rw [enc3 (by omega) (by omega), hl]; simp; omega
    · rw [enc3 (by omega) (by omega), hh]; simp; omega
    · unfold okC at he; rw [pre3]; omega
  · refine ⟨c / 64 * 64, c / 64 * 64 + 63, by unfold okC; omega, by unfold okC; omega, by omega, ⟨1, by omega, ?_⟩, ⟨1, by omega, ?_⟩, fun e he => ?_⟩
    · rw [enc4 (by omega), hl]; simp; omega
    · rw [enc4 (by omega), hh]; simp; omega
    · unfold okC at he; rw [pre3]; omega
set_option maxHeartbeats 4000000 in
theorem ends4 (a b d e : Nat) (h : Begs [a, b, d, e]) : ∃ lo hi, Ends [a, b, d, e] lo hi := by
  obtain ⟨c, hc, hp⟩ := h
  have hl : lowL [a, b, d, e] = [a, b, d, e] := by unfold lowL; rw [if_neg (by simp), if_neg (by simp)]
  have hh : highL [a, b, d, e] = [a, b, d, e] := by unfold highL; rw [if_neg (by simp), if_neg (by simp)]
  rw [pre4] at hp
  refine ⟨c, c, hc, hc, Nat.le_refl _, ⟨0, by omega, ?_⟩, ⟨0, by omega, ?_⟩, fun f hf => ?_⟩
  · rw [enc4 (by omega), hl]; simp; omega
  · rw [enc4 (by omega), hh]; simp; omega
  · unfold okC at hf; rw [pre4]; omega
theorem ends_of {l : List Nat} (hb : ∀ x ∈ l, x < 256) (h192 : 192 ≤ l.getD 0 0) (h : Begs l) : ∃ lo hi, Ends l lo hi := by
  match l, hb, h192, h with
  | [], _, h192, _ => simp at h192
  | [a], hb, h192, h => exact ends1 a (hb a (by simp)) h192 h
  | [a, b], _, h192, h => exact ends2 a b h h192
  | [a, b, d], _, h192, h => exact ends3 a b d h h192
  | [a, b, d, e], _, _, h => exact ends4 a b d e h
  | a :: b :: d :: e :: f :: r, _, _, h => obtain ⟨c, _, hp⟩ := h; exact absurd hp (pre5 a b d e f r c)
end Go.Proofs.Ytjjmfmlgemdjkaa
