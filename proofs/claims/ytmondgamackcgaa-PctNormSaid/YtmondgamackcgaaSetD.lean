/- The contracts of chars.Set.List and Len. -/
import Derived.Test.YtmondgamackcgaaSetC
namespace Go.Proofs.Ytmondgamackcgaa
open Go.RowKit

/-- The bytes of a set below k, rising. -/
def listTo (f : Nat → Bool) (k : Nat) : List UInt8 := ((List.range k).filter f).map UInt8.ofNat
theorem listTo_succ (f : Nat → Bool) (k : Nat) : listTo f (k + 1) = if f k then listTo f k ++ [UInt8.ofNat k] else listTo f k := by
  unfold listTo
  rw [List.range_succ, List.filter_append, List.map_append]
  by_cases h : f k <;> simp [h]
theorem listTo_length (f : Nat → Bool) (k : Nat) : (listTo f k).length ≤ k := by
  unfold listTo
  rw [List.length_map]
  exact Nat.le_trans (List.length_filter_le _ _) (by simp)

theorem list_more {w : World} {base n : Nat} {e : TypeId} {v : Value} {f : Nat → Bool} {k : Nat} (hk : k < 256) (h : w.ownsRow base e 1 v (n + 1) ((listTo f k).map byteV ++ [.int .u8 k])) (hs : listTo f (k + 1) = listTo f k ++ [UInt8.ofNat k]) (hn : (listTo f k).length = n) :
    w.ownsRow base e 1 v (listTo f (k + 1)).length ((listTo f (k + 1)).map byteV) := by
  have e1 : byteV (UInt8.ofNat k) = .int .u8 k := by unfold byteV; rw [UInt8.toNat_ofNat']; congr 2; omega
  rw [hs, List.map_append, List.length_append, List.map_singleton, e1, hn]
  exact h

set_option maxRecDepth 100000 in
set_option maxHeartbeats 1000000 in
theorem list_any (f : Nat → Bool) (w : World) :
    Calls Try.prog 19 #[setV f] w fun e w' => e = .returned (.string ⟨(listTo f 256).toArray⟩) ∧ Below w.heap.size w w' := by
  obtain ⟨i0, hi, hz0, hz1, hz2⟩ := info_parts infoByte
  unfold setV wordsA
  go_enter Try.func19, Try.ntmps19
  go_wp2
  go_loopw [3, 5] (fun v i wr => ∃ k : Nat, k ≤ 256 ∧ i = .int .i64 k ∧ wr.ownsRow (w.heap.size + 1) 5 1 v (listTo f k).length ((listTo f k).map byteV) ∧ wr.heap[w.heap.size]? = some (.cells (wordsA f) 25 (0, 0)) ∧ w.heap.size + 1 ≤ wr.heap.size ∧ Below w.heap.size w wr) (fun _ i _ => 256 - (intOf i).toNat)
  case atStart => exact ⟨0, by omega, rfl, World.ownsRow_nil _ _ _ _, heap_alloc_new _ _, by simp, (Below.refl _ _).alloc (Nat.le_refl _) _⟩
  case round =>
    obtain ⟨k, hk, rfl, hown, hB, hz, hbel⟩ := hrel
    by_cases hlt : k < 256
    · have c0 := cells4 hB 0 (by omega)
      have c1 := cells4 hB 1 (by omega)
      have c2 := cells4 hB 2 (by omega)
      have c3 := cells4 hB 3 (by omega)
      have HB := Lib.hid hB
      clear hB
      have hlen := listTo_length f k
      by_cases hf : f k = true
      · have hs := listTo_succ f k
        rw [if_pos hf] at hs
        have Hs := Lib.hid hs
        clear hs
        have hhas := has_any f k hlt
        rw [hf] at hhas
        unfold setV wordsA at hhas
        have Hhas := Lib.hid hhas
        clear hf hhas
        go_wp2_with (first | (go_at_call 17; (with_reducible refine (Hhas.out _).mono ?_); rintro e w1 ⟨rfl, hb1⟩; have hown1 := own_below hown hb1; have hsz1 := hb1.size) | (at_builtin; refine wpList_append_own _ rfl _ _ 53 rfl (w.heap.size + 1) 5 i0 (.int .u8 0) 1 1 Try.underlying53 hi hz0 hz1 hz2 rfl (by decide) _ _ _ rfl (hown1.alloc _) ⟨w1.heap.size, 0, none⟩ 1 1 [.int .u8 k] rfl rfl ?c1 ?c2 ?c3 ?c4 ?c5 ?_))
        case c1 => exact cell_one _ _ _
        case c2 => intro u hu; simp at hu; subst hu; rfl
        case c3 => unfold maxLen; omega
        case c4 => omega
        case c5 => simp; omega
        intro v' w2 hown' hgrow _
        have R := list_more hlt hown' Hs.out rfl
        have hb2 : Below (w.heap.size + 1) wr w2 := below_append hz hb1 hgrow hown (Nat.le_refl _)
        clear hown' hown1 hown hgrow
        go_wp2
        go_roundw
        case rel => exact ⟨k + 1, by omega, by go_num, R, (hb2.block _ (Nat.lt_succ_self _)).trans HB.out, Nat.le_trans hz hb2.size, hbel.trans (hb2.mono (Nat.le_succ _))⟩
        case measure => simp [intOf]; omega
      · have hs := listTo_succ f k
        rw [if_neg hf] at hs
        have Hs := Lib.hid hs
        clear hs
        have hhas := has_any f k hlt
        rw [show f k = false by simpa using hf] at hhas
        unfold setV wordsA at hhas
        have Hhas := Lib.hid hhas
        clear hf hhas
        go_wp2_with (go_at_call 17; (with_reducible refine (Hhas.out _).mono ?_); rintro e w1 ⟨rfl, hb1⟩)
        go_roundw
        case rel => exact ⟨k + 1, by omega, by go_num, by rw [Hs.out]; exact own_below hown hb1, block_below HB.out hb1, Nat.le_trans hz hb1.size, below_after hbel hb1⟩
        case measure => simp [intOf]; omega
    · obtain rfl : k = 256 := by omega
      have hconv := own_text Try.underlying53 Try.underlying5 Try.underlying9 hown
      clear hown hB
      go_wp2
      go_ret
      exact ⟨rfl, hbel⟩
end Go.Proofs.Ytmondgamackcgaa
