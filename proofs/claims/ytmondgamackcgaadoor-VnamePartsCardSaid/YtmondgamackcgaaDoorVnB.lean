/- The contract of strings.Split at a point. -/
import Derived.Test.YtmondgamackcgaaDoorKit
import Derived.Test.YtmondgamackcgaaDoorShelf
namespace Go.Proofs.YtmondgamackcgaaDoor
open Go.RowKit

def dot : ByteArray := ⟨#[46]⟩
theorem count_dot (s : ByteArray) (w : World) : Calls Tryd.prog 38 #[.string s, .string dot] w fun e w' => e = .returned (.int .i64 (Lib.countB s dot)) ∧ w' = w := by
  refine (Tryd.strings_Count_one s 46 w).mono fun e w' ⟨he, hw⟩ => ⟨?_, hw⟩
  rw [he]
  show _ = Ending.returned (Value.int .i64 ((Lib.count s.data.toList [46] : Nat) : Int))
  rw [Lib.count_one]
  rfl
theorem index_dot (s : ByteArray) (w : World) : Calls Tryd.prog 39 #[.string s, .string dot] w fun e w' => e = .returned (.int .i64 (Lib.indexB s dot)) ∧ w' = w := by
  refine (Tryd.strings_Index_one s 46 w).mono fun e w' ⟨he, hw⟩ => ⟨?_, hw⟩
  rw [he]
  have h := Lib.one s dot rfl
  rw [h]
  rfl
theorem split_any (s : ByteArray) (hs : s.size ≤ 1000000) (w : World) :
    Calls Tryd.prog 21 #[.string s, .string dot] w fun e w' => e = .returned (.slice (some ⟨w.heap.size, 0, none⟩) (Lib.countB s dot + 1) (Lib.countB s dot + 1)) ∧ w' = w.alloc (.cells ((Lib.splitB dot 0 (Lib.countB s dot) s).map Value.string).toArray 9) := by
  have hle := Lib.countB_le dot (by decide) s.size s (Nat.le_refl _)
  have hlen := Lib.splitB_all dot (by decide) 0 _ s rfl
  have c := Any.strings_genSplit_core Tryd.lays221 (by kernel_rfl) s dot 0 (-1) (Lib.countB s dot + 1) w (by omega) (by decide) (by decide) (fun x c _ => index_dot x _) (count_dot s w) (by decide) (by decide) (by rw [if_pos (by decide)]; omega)
  rw [Nat.add_sub_cancel, hlen] at c
  have e2 : Lib.cellsOf (Lib.splitB dot 0 (Lib.countB s dot) s) (Lib.countB s dot + 1) = ((Lib.splitB dot 0 (Lib.countB s dot) s).map Value.string).toArray := by rw [← hlen]; exact Lib.cellsOf_full _
  rw [e2] at c
  have c' : Calls Tryd.prog 28 #[.string s, .string dot, .int .i64 0, .int .i64 (-1)] w fun e w' => e = .returned (.slice (some ⟨w.heap.size, 0, none⟩) (Lib.countB s dot + 1) (Lib.countB s dot + 1)) ∧ w' = w.alloc (.cells ((Lib.splitB dot 0 (Lib.countB s dot) s).map Value.string).toArray 9) := c
  clear c e2
  generalize dot = d at c' hlen hle ⊢
  go_enter Tryd.func21, Tryd.ntmps21
  go_wp2_with (go_at_call 28; refine c'.mono ?_; rintro e w' ⟨rfl, hw⟩; rw [hw])
  go_ret
  exact ⟨rfl, rfl⟩
end Go.Proofs.YtmondgamackcgaaDoor
