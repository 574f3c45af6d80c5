/- The contracts of chars.Set.Has and of add: bit c mod 64 of word c / 64. -/
import Derived.Test.YtmondgamackcgaaDoorKit
import Derived.Test.YtmondgamackcgaaDoorPlain
namespace Go.Proofs.YtmondgamackcgaaDoor
open Go.RowKit

/-- The words of a set, and the set as a value. -/
def wordsA (f : Nat → Bool) : Array Value := #[.int .u64 (wd f 0 : Nat), .int .u64 (wd f 1 : Nat), .int .u64 (wd f 2 : Nat), .int .u64 (wd f 3 : Nat)]
def setV (f : Nat → Bool) : Value := .agg (wordsA f)

theorem wordsA_at (f : Nat → Bool) (k : Nat) (hk : k < 4) : (wordsA f)[k]? = some (.int .u64 (wd f k : Nat)) := by
  match k, hk with
  | 0, _ => rfl
  | 1, _ => rfl
  | 2, _ => rfl
  | 3, _ => rfl

theorem wordsA_add (f : Nat → Bool) (c : Nat) (hc : c < 256) :
    (wordsA f).setIfInBounds (c / 64) (.int .u64 (bits .or .u64 (wd f (c / 64) : Nat) (IntKind.u64.wrap (2 ^ (c % 64))))) = wordsA fun n => f n || n == c := by
  have h2 : 2 ^ (c % 64) < 18446744073709551616 := Nat.pow_lt_pow_right (n := 64) (by omega) (by omega)
  have e0 : IntKind.u64.wrap (2 ^ (c % 64)) = ((2 ^ (c % 64) : Nat) : Int) := by
    rw [IntKind.wrap_u64, show ((2 : Int) ^ (c % 64)) = ((2 ^ (c % 64) : Nat) : Int) by simp [Int.natCast_pow]]
    exact Int.emod_eq_of_lt (Int.natCast_nonneg _) (Int.ofNat_lt.2 h2)
  have e : bits .or .u64 (wd f (c / 64) : Nat) (IntKind.u64.wrap (2 ^ (c % 64))) = ((wd (fun n => f n || n == c) (c / 64) : Nat) : Int) := by
    rw [e0, wd_add f (c / 64) (c % 64) (by omega), show 64 * (c / 64) + c % 64 = c by omega]
  rw [e]
  have o := fun k (h : c / 64 ≠ k) => wd_other f k c h
  have hk : c / 64 = 0 ∨ c / 64 = 1 ∨ c / 64 = 2 ∨ c / 64 = 3 := by omega
  unfold wordsA
  rcases hk with h | h | h | h <;> rw [h] at o ⊢
  · rw [o 1 (by decide), o 2 (by decide), o 3 (by decide)]; rfl
  · rw [o 0 (by decide), o 2 (by decide), o 3 (by decide)]; rfl
  · rw [o 0 (by decide), o 1 (by decide), o 3 (by decide)]; rfl
  · rw [o 0 (by decide), o 1 (by decide), o 2 (by decide)]; rfl

set_option maxHeartbeats 400000 in
theorem has_any (f : Nat → Bool) (c : Nat) (hc : c < 256) (w : World) :
    Calls Tryd.prog 26 #[setV f, .int .u8 c] w fun e w' => e = .returned (.bool (f c)) ∧ Below w.heap.size w w' := by
  have hcell : (w.alloc (.cells #[.int .u64 (wd f 0 : Nat), .int .u64 (wd f 1 : Nat), .int .u64 (wd f 2 : Nat), .int .u64 (wd f 3 : Nat)] 38)).cell? ⟨w.heap.size, c / 64, none⟩ = some (.int .u64 (wd f (c / 64) : Nat)) := by
    rw [cell_alloc]; exact wordsA_at f _ (by omega)
  have hl := wd_lt f (c / 64)
  have HB := Lib.hid (has_bit f c)
  generalize wd f (c / 64) = n at hcell hl HB
  unfold setV wordsA
  go_enter Tryd.func26, Tryd.ntmps26
  go_wp2
  go_ret
  refine ⟨?_, (Below.refl _ _).alloc (Nat.le_refl _) _⟩
  show Ending.returned (Value.bool _) = _
  rw [HB.out]

set_option maxHeartbeats 400000 in
theorem add_any (f : Nat → Bool) (c : Nat) (hc : c < 256) (B : Nat) (w : World) (hb : w.heap[B]? = some (.cells (wordsA f) 38 (0, 0))) :
    Calls Tryd.prog 43 #[.pointer (some ⟨B, 0, none⟩), .int .u8 c] w fun e w' => e = .returned (.tuple #[]) ∧ w'.heap[B]? = some (.cells (wordsA fun n => f n || n == c) 38 (0, 0)) ∧ Below B w w' := by
  have hcell : w.cell? ⟨B, c / 64, none⟩ = some (.int .u64 (wd f (c / 64) : Nat)) := (cell_of_row w B (c / 64) _ _ _ hb).trans (wordsA_at f _ (by omega))
  have hfree : w.frozen? ⟨B, c / 64, none⟩ = false := by simp [World.frozen?, hb]
  have hl := wd_lt f (c / 64)
  have HE := Lib.hid (wordsA_add f c hc)
  have Hb := Lib.hid hb
  clear hb
  go_enter Tryd.func43, Tryd.ntmps43
  go_wp2
  go_region
  go_end0
  refine ⟨rfl, ?_, ?_⟩
  · show (World.setCell _ _ _).heap[B]? = _
    rw [block_setCell Hb.out, HE.out]
  · exact ((Below.refl B w).setCell (Nat.le_refl _) _).drew
end Go.Proofs.YtmondgamackcgaaDoor
