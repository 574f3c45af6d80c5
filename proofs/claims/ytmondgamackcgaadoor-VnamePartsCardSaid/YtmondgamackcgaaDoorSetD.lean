/- The contracts of chars.Set.List and Len. -/
import Derived.Test.YtmondgamackcgaaDoorSetC
namespace Go.Proofs.YtmondgamackcgaaDoor
open Go.RowKit

/-- The bytes of a set below k, rising. -/
def listTo (f : Nat → Bool) (k : Nat) : List UInt8 := ((List.range k).filter f).map UInt8.ofNat
theorem listTo_succ (f : Nat → Bool) (k : Nat) : listTo f (k + 1) = if f k then listTo f k ++ [UInt8.ofNat k] else listTo f k := by
  unfold listTo
  rw [List.range_succ, List.filter_append, List.map_append]
  by_cases h : f k <;> simp [h]
theorem listTo_length (f : Nat → Bool) (k : Nat) : (listTo f k).length ≤ k := by
  unfold listTo
  rw [List.length_map]
  exact Nat.le_trans (List.length_filter_le _ _) (by simp)

theorem list_more {w : World} {base n : Nat} {e : TypeId} {v : Value} {f : Nat → Bool} {k : Nat} (hk : k < 256) (h : w.ownsRow base e 1 v (n + 1) ((listTo f k).map byteV ++ [.int .u8 k])) (hs : listTo f (k + 1) = listTo f k ++ [UInt8.ofNat k]) (hn : (listTo f k).length = n) :
    w.ownsRow base e 1 v (listTo f (k + 1)).length ((listTo f (k + 1)).map byteV) := by
  have e1 : byteV (UInt8.ofNat k) = .int .u8 k := by unfold byteV; rw [UInt8.toNat_ofNat']; congr 2; omega
  rw [hs, List.map_append, List.length_append, List.map_singleton, e1, hn]
  exact h

end Go.Proofs.YtmondgamackcgaaDoor
