/- The contracts of phalaroperef02.Has and List. -/
import Derived.Test.YtmondgamackcgaaSetE
namespace Go.Proofs.Ytmondgamackcgaa
open Go.RowKit

theorem half_more (m i : Nat) : m / 2 ^ i / 2 = m / 2 ^ (i + 1) := by rw [Nat.div_div_eq_div_mul, Nat.pow_succ]
theorem bit_mod (f : Nat → Bool) (c : Nat) : (((wd f (c / 64) / 2 ^ (c % 64) % 2 : Nat) : Int) == 1) = f c := by
  have h3 := Nat.testBit_eq_decide_div_mod_eq (x := wd f (c / 64)) (i := c % 64)
  rw [wd_bit] at h3
  have h4 : c % 64 < 64 := by omega
  have h5 : 64 * (c / 64) + c % 64 = c := by omega
  rw [h5] at h3
  simp only [h4, decide_true, Bool.true_and] at h3
  rw [h3]
  generalize wd f (c / 64) / 2 ^ (c % 64) % 2 = y
  rw [Bool.eq_iff_iff]
  simp
  omega

set_option maxHeartbeats 1000000 in
theorem refHas_any (f : Nat → Bool) (c : Nat) (hc : c < 256) (w : World) :
    Calls Try.prog 18 #[setV f, .int .u8 c] w fun e w' => e = .returned (.bool (f c)) ∧ Below w.heap.size w w' := by
  have hcell : (w.alloc (.cells #[.int .u64 (wd f 0 : Nat), .int .u64 (wd f 1 : Nat), .int .u64 (wd f 2 : Nat), .int .u64 (wd f 3 : Nat)] 23)).cell? ⟨w.heap.size, c / 64, none⟩ = some (.int .u64 (wd f (c / 64) : Nat)) := by
    rw [cell_alloc]; exact wordsA_at f _ (by omega)
  have hl := wd_lt f (c / 64)
  have HB := Lib.hid (bit_mod f c)
  generalize wd f (c / 64) = n at hcell hl HB
  unfold setV wordsA
  go_enter Try.func18, Try.ntmps18
  go_wp2
  go_loop [5, 6] (fun v i => ∃ k m : Nat, k ≤ c % 64 ∧ i = .int .i64 k ∧ v = .int .u64 m ∧ m < 18446744073709551616 ∧ Hid (m = n / 2 ^ k)) (fun _ i => 64 - (intOf i).toNat)
  case atStart => exact ⟨0, n, Nat.zero_le _, rfl, rfl, hl, by show n = _; simp⟩
  case round =>
    obtain ⟨k, m, hk, rfl, rfl, hm, HM⟩ := hrel
    by_cases hlt : k < c % 64
    · go_wp2
      go_round
      case rel => exact ⟨k + 1, m / 2, by omega, by go_num, by simp, by omega, by show m / 2 = _; rw [HM.out, half_more]⟩
      case measure => simp [intOf]; omega
    · obtain rfl : k = c % 64 := by omega
      go_wp2
      go_ret
      refine ⟨?_, (Below.refl _ _).alloc (Nat.le_refl _) _⟩
      show Ending.returned (Value.bool _) = _
      rw [← HB.out, ← HM.out]
      simp

set_option maxRecDepth 100000 in
set_option maxHeartbeats 1000000 in
theorem refList_any (f : Nat → Bool) (w : World) :
    Calls Try.prog 16 #[setV f] w fun e w' => e = .returned (.string ⟨(listTo f 256).toArray⟩) ∧ Below w.heap.size w w' := by
  obtain ⟨i0, hi, hz0, hz1, hz2⟩ := info_parts infoByte
  unfold setV wordsA
  go_enter Try.func16, Try.ntmps16
  go_wp2
  go_loopw [3, 4] (fun v i wr => ∃ k : Nat, k ≤ 256 ∧ i = .int .i64 k ∧ wr.ownsRow (w.heap.size + 1) 5 1 v (listTo f k).length ((listTo f k).map byteV) ∧ wr.heap[w.heap.size]? = some (.cells (wordsA f) 23 (0, 0)) ∧ w.heap.size + 1 ≤ wr.heap.size ∧ Below w.heap.size w wr) (fun _ i _ => 256 - (intOf i).toNat)
  case atStart => exact ⟨0, by omega, rfl, World.ownsRow_nil _ _ _ _, heap_alloc_new _ _, by simp, (Below.refl _ _).alloc (Nat.le_refl _) _⟩
  case round =>
    obtain ⟨k, hk, rfl, hown, hB, hz, hbel⟩ := hrel
    by_cases hlt : k < 256
    · have c0 := cells4 hB 0 (by omega)
      have c1 := cells4 hB 1 (by omega)
      have c2 := cells4 hB 2 (by omega)
      have c3 := cells4 hB 3 (by omega)
      have HB := Lib.hid hB
      clear hB
      have hlen := listTo_length f k
      by_cases hf : f k = true
      · have hs := listTo_succ f k
        rw [if_pos hf] at hs
        have Hs := Lib.hid hs
        clear hs
        have hhas := refHas_any f k hlt
        rw [hf] at hhas
        unfold setV wordsA at hhas
        have Hhas := Lib.hid hhas
        clear hf hhas
        go_wp2_with (first | (go_at_call 18; (with_reducible refine (Hhas.out _).mono ?_); rintro e w1 ⟨rfl, hb1⟩; have hown1 := own_below hown hb1; have hsz1 := hb1.size) | (at_builtin; refine wpList_append_own _ rfl _ _ 53 rfl (w.heap.size + 1) 5 i0 (.int .u8 0) 1 1 Try.underlying53 hi hz0 hz1 hz2 rfl (by decide) _ _ _ rfl (hown1.alloc _) ⟨w1.heap.size, 0, none⟩ 1 1 [.int .u8 k] rfl rfl ?c1 ?c2 ?c3 ?c4 ?c5 ?_))
        case c1 => exact cell_one _ _ _
        case c2 => intro u hu; simp at hu; subst hu; rfl
        case c3 => unfold maxLen; omega
        case c4 => omega
        case c5 => simp; omega
        intro v' w2 hown' hgrow _
        have R := list_more hlt hown' Hs.out rfl
        have hb2 : Below (w.heap.size + 1) wr w2 := below_append hz hb1 hgrow hown (Nat.le_refl _)
        clear hown' hown1 hown hgrow
        go_wp2
        go_roundw
        case rel => exact ⟨k + 1, by omega, by go_num, R, (hb2.block _ (Nat.lt_succ_self _)).trans HB.out, Nat.le_trans hz hb2.size, hbel.trans (hb2.mono (Nat.le_succ _))⟩
        case measure => simp [intOf]; omega
      · have hs := listTo_succ f k
        rw [if_neg hf] at hs
        have Hs := Lib.hid hs
        clear hs
        have hhas := refHas_any f k hlt
        rw [show f k = false by simpa using hf] at hhas
        unfold setV wordsA at hhas
        have Hhas := Lib.hid hhas
        clear hf hhas
        go_wp2_with (go_at_call 18; (with_reducible refine (Hhas.out _).mono ?_); rintro e w1 ⟨rfl, hb1⟩)
        go_roundw
        case rel => exact ⟨k + 1, by omega, by go_num, by rw [Hs.out]; exact own_below hown hb1, block_below HB.out hb1, Nat.le_trans hz hb1.size, below_after hbel hb1⟩
        case measure => simp [intOf]; omega
    · obtain rfl : k = 256 := by omega
      have hconv := own_text Try.underlying53 Try.underlying5 Try.underlying9 hown
      clear hown hB
      go_wp2
      go_ret
      exact ⟨rfl, hbel⟩
end Go.Proofs.Ytmondgamackcgaa
