/- The contracts of the closures that utf hands to each. -/
import Derived.Test.YtjjmfmlgemdjkaaKit
import Derived.Test.YtjjmfmlgemdjkaaUtfPlain
import Derived.WalkSmall
import Derived.Lib.OthersKept
import Derived.RangeFuncBox
namespace Go.Proofs.Ytjjmfmlgemdjkaa
open Go.RowKit

def intV (c : Nat) : Value := .int .i64 (c : Int)
theorem infoInt : (Try.prog.info? 3).map (fun i => (i.zero, i.size, i.bytes)) = some (some (.int .i64 0), 1, 8) := by kernel_rfl

theorem nop_any (c : Int) (w : World) : Calls Try.prog 62 #[.int .i64 c] w fun e w' => e = .returned (.tuple #[]) ∧ w = w' := by
  go_enter Try.func62, Try.ntmps62
  go_wp2
  go_end0
  exact ⟨rfl, rfl⟩

set_option maxHeartbeats 1000000 in
theorem count1_any (c : Int) (n B : Nat) (hn : n ≤ 1000000) (w : World) (hB : w.heap[B]? = some (.cells #[.int .i64 n] 3 (0, 0))) :
    Calls Try.prog 63 #[.int .i64 c, .pointer (some ⟨B, 0, none⟩)] w fun e w' => e = .returned (.tuple #[]) ∧ w'.heap[B]? = some (.cells #[.int .i64 (n + 1 : Nat)] 3 (0, 0)) ∧ Below B w w' ∧ ∀ k, B < k → w'.heap[k]? = w.heap[k]? := by
  have hc : w.cell? ⟨B, 0, none⟩ = some (.int .i64 n) := cell_of hB 0
  have hf := free_of hB 0
  have HB := Lib.hid hB
  clear hB
  go_enter Try.func63, Try.ntmps63
  go_wp2
  go_end0
  refine ⟨rfl, ?_, (Below.refl B w).setCell (p := ⟨B, 0, none⟩) (Nat.le_refl _) _, fun k hk => Below.heap_setCell _ _ _ _ (by show k ≠ B; omega)⟩
  rw [block_setCell HB.out]
  simp

set_option maxHeartbeats 1000000 in
theorem chars1_any (ci : Int) (c : Nat) (hci : ci = c) (v : Value) (l : List Nat) (B base : Nat) (hl : l.length ≤ 1000000) (w : World) (hB : w.heap[B]? = some (.cells #[v] 22 (0, 0))) (hown : w.ownsRow base 3 1 v l.length (l.map intV)) (hBb : B < base) (hbase : base ≤ w.heap.size) :
    Calls Try.prog 61 #[.int .i64 ci, .pointer (some ⟨B, 0, none⟩)] w fun e w' => e = .returned (.tuple #[]) ∧ (∃ v', w'.heap[B]? = some (.cells #[v'] 22 (0, 0)) ∧ w'.ownsRow base 3 1 v' (l ++ [c]).length ((l ++ [c]).map intV)) ∧ Below B w w' ∧ w.heap.size ≤ w'.heap.size ∧ ∀ k, k < base → k ≠ B → w'.heap[k]? = w.heap[k]? := by
  obtain ⟨i0, hi, hz0, hz1, hz2⟩ := info_parts infoInt
  subst hci
  have hc : w.cell? ⟨B, 0, none⟩ = some v := cell_of hB 0
  have HB := Lib.hid hB
  clear hB
  go_enter Try.func61, Try.ntmps61
  go_wp2_with (at_builtin; refine wpList_append_own _ rfl _ _ 22 rfl base 3 i0 (.int .i64 0) 1 8 Try.underlying22 hi hz0 hz1 hz2 rfl (by decide) _ _ _ rfl (hown.alloc _) ⟨w.heap.size, 0, none⟩ 1 1 [.int .i64 c] rfl rfl (cell_one _ _ _) (by simp [Value.oneCell']) (by unfold maxLen; omega) (by omega) (by simp; omega) ?_; intro v' w1 hown' hgrow _; obtain ⟨g', cap', rfl⟩ := ownsRow_succ hown'; have hbb : Below base w w1 := below_append hbase (Below.refl _ _) hgrow hown (Nat.le_refl _); have hB1 := (hbb.block B hBb).trans HB.out; have hf1 := free_of hB1 0; have hc1 : w1.cell? ⟨B, 0, none⟩ = some v := cell_of hB1 0)
  go_end0
  refine ⟨rfl, ⟨_, (block_setCell hB1 0 _).trans rfl, ?_⟩, (hbb.mono (Nat.le_of_lt hBb)).setCell (p := ⟨B, 0, none⟩) (Nat.le_refl _) _, ?_, ?_⟩
  · rw [List.map_append, List.length_append]
    exact ownsRow_setCell_below hown' hBb _
  · simp only [World.setCell, Array.size_modify]; exact hbb.size
  · intro k hk hkB
    exact (Below.heap_setCell _ _ _ _ (by show k ≠ B; exact hkB)).trans (hbb.block k hk)
end Go.Proofs.Ytjjmfmlgemdjkaa
