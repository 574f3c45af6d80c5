/- The contract of ucs.filled. -/
import Derived.Test.YtjjmfmlgemdjkaaUcsB
import Derived.Test.YtjjmfmlgemdjkaaUtfN
import Derived.Lib.ConvBytes
import Derived.ArgAppend
import Derived.Lib.SmallJoins
import Derived.Laws.IdiomStrings
namespace Go.Proofs.Ytjjmfmlgemdjkaa
open Go.RowKit

def byteS (c : Nat) : ByteArray := ⟨#[UInt8.ofNat c]⟩
/-- s, filled with bytes c until it is one character, four bytes at most. -/
def fillU (c : Nat) : Nat → ByteArray → Nat × Bool
  | 0, _ => (0, false)
  | b + 1, s => if s.size ≤ 4 then (if badU s = s.size ∧ (charsU s).length = 1 then ((charsU s).getD 0 0, true) else fillU c b (s ++ byteS c)) else (0, false)

/-- v is a slice of bytes of w that holds s; what lies behind it may be written. -/
def RowX (w : World) (base : Nat) (v : Value) (s : ByteArray) : Prop :=
  ∃ g cap cur fz, v = .slice (some ⟨g, 0, none⟩) s.size cap ∧ base ≤ g ∧ w.heap[g]? = some (.cells cur 5 fz) ∧ (cur.size ≤ fz.1 ∨ fz = (0, 0)) ∧ s.size ≤ cap ∧ cap = cur.size ∧
    ∀ j, j < s.size → cur[j]? = some (.int .u8 (s.data.toList.getD j 0).toNat)

theorem RowX.below {w w1 : World} {base : Nat} {v : Value} {s : ByteArray} (h : RowX w base v s) (hb : Below w.heap.size w w1) : RowX w1 base v s := by
  obtain ⟨g, cap, cur, fz, h1, h2, h3, h4⟩ := h
  exact ⟨g, cap, cur, fz, h1, h2, block_below h3 hb, h4⟩
theorem cell_any {w : World} {g : Nat} {cur : Array Value} {t : TypeId} {fz : Nat × Nat} (h : w.heap[g]? = some (.cells cur t fz)) (j : Nat) : w.cell? ⟨g, j, none⟩ = cur[j]? := cell_of_row w g j cur t fz h
theorem RowX.str {w : World} {base : Nat} {v : Value} {s : ByteArray} (h : RowX w base v s) : (convert 45 9 v).run Try.prog w = .ok (.string s) w := by
  obtain ⟨g, cap, cur, fz, rfl, h2, h3, h4, h5, h6, h7⟩ := h
  have hl : s.data.toList.length = s.size := by rw [Array.length_toList]; rfl
  have h := run_convert_bytes_back (P := Try.prog) w 45 9 5 ⟨g, 0, none⟩ cap s.data.toList Try.underlying45 Try.underlying5 Try.underlying9 (fun j hj => by
    rw [Addr.add_lit, Nat.zero_add, cell_any h3, h7 j (by omega), List.getD_eq_getElem?_getD, List.getElem?_eq_getElem hj]
    rfl)
  rw [hl] at h
  rw [h]
theorem row_conv (w : World) (s : ByteArray) (hs : s.size ≤ 1000000) : ∃ v, (convert 9 45 (.string s)).run Try.prog w = .ok v (Lib.bytesWorld w 5 s) ∧ RowX (Lib.bytesWorld w 5 s) w.heap.size v s := by
  refine ⟨_, Lib.run_convert_string_bytes w 9 45 5 s Try.underlying9 Try.underlying45 Try.underlying5, w.heap.size, _, Lib.bytesCells w 5 s, _, rfl, Nat.le_refl _, Lib.bytesWorld_at_new w 5 s, .inl (Nat.le_refl _), ?_, ?_, ?_⟩
  · exact grownCap_ge w s.size 0 5
  · have := grownCap_ge w s.size 0 5
    unfold Lib.bytesCells
    rw [Array.size_append, Array.size_map, Array.size_replicate]
    show _ = s.size + _
    omega
  · intro j hj
    have h := Lib.bytesWorld_cell w 5 s j hj
    rw [cell_any (Lib.bytesWorld_at_new w 5 s)] at h
    exact h
theorem row_spare {w : World} {g : Nat} {cur : Array Value} {fz : Nat × Nat} (h3 : w.heap[g]? = some (.cells cur 5 fz)) (h4 : cur.size ≤ fz.1 ∨ fz = (0, 0)) (n : Nat) (hn : n < cur.size) : (w.cell? ⟨g, n, none⟩).isSome = true ∧ w.frozen? ⟨g, n, none⟩ = false := by
  refine ⟨by rw [cell_any h3, Array.getElem?_eq_getElem hn]; rfl, ?_⟩
  simp [World.frozen?, h3]
  rcases h4 with h | rfl
  · intro h'; omega
  · simp
end Go.Proofs.Ytjjmfmlgemdjkaa
