/- Plain: the characters of a text, as a range over it steps; no Go in sight. -/
import Derived.Laws.RangeAny
namespace Go.Proofs.Ytjjmfmlgemdjkaa

/-- At byte p of s no character begins. -/
def stopB (s : ByteArray) (p : Nat) : Bool := (Utf8.decode s p).1 == 65533 && (decide (s.size - p < 3) || !((s.extract p (p + 3)).toList == [239, 191, 189]))

/-- From byte p on: the characters up to where none begins, and where that is. -/
def runU (s : ByteArray) : Nat → Nat → List Nat × Nat
  | 0, _ => ([], s.size)
  | b + 1, p => if p < s.size then (if stopB s p then ([], p) else ((Utf8.decode s p).1 :: (runU s b (p + (Utf8.decode s p).2)).1, (runU s b (p + (Utf8.decode s p).2)).2)) else ([], s.size)
def charsU (s : ByteArray) : List Nat := (runU s s.size 0).1
def badU (s : ByteArray) : Nat := (runU s s.size 0).2

theorem runU_end (s : ByteArray) (b p : Nat) (h : ¬ p < s.size) : runU s b p = ([], s.size) := by
  cases b with
  | zero => rfl
  | succ b => simp [runU, h]
theorem runU_stop (s : ByteArray) (b p : Nat) (h : p < s.size) (hs : stopB s p = true) : runU s (b + 1) p = ([], p) := by simp [runU, h, hs]
theorem runU_go (s : ByteArray) (b p : Nat) (h : p < s.size) (hs : stopB s p = false) : runU s (b + 1) p = ((Utf8.decode s p).1 :: (runU s b (p + (Utf8.decode s p).2)).1, (runU s b (p + (Utf8.decode s p).2)).2) := by simp [runU, h, hs]

theorem width_pos (s : ByteArray) (p : Nat) (h : p < s.size) : 1 ≤ (Utf8.decode s p).2 := by
  by_cases ha : (s[p]'h).toNat < 128
  · rw [decode_ascii s p h ha]; exact Nat.le_refl _
  · exact (decode_high s p h (by omega)).2

theorem encode_wrong : Utf8.encode 65533 = ⟨#[239, 191, 189]⟩ := by rfl
end Go.Proofs.Ytjjmfmlgemdjkaa

