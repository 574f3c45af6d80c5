/- The walks of the laws CharsHas, CharsOf. -/
import Derived.Test.YtmondgamackcgaaAwake2
import Derived.Deep.QuietTactic
import Derived.BigQuiet
namespace Go.Proofs.Ytmondgamackcgaa
open Go.RowKit Go.Sort

set_option maxRecDepth 100000 in
set_option maxHeartbeats 2000000 in
theorem walkCharsHas (f : Nat → Bool) (c : Nat) (hc : c < 256) (w : World) :
    Calls Try.prog 3 #[setV f, .int .u8 c] w fun e w' => e = .returned (.bool true) ∧ Below w.heap.size w w' := by
  have cA := awake2_any
  have cL := refList_any f
  have cH := has_any f c hc
  have cR := refHas_any f c hc
  have cT := list_any f
  have cN := len_any f
  unfold setV wordsA at cL cH cR cT cN ⊢
  go_enter Try.func3, Try.ntmps3
  go_wp2_with fail
  refine (cA _).mono ?_
  rintro e w1 ⟨rfl, hb1⟩
  have hS := first_block hb1
  obtain ⟨k0, k1, k2, k3⟩ := cells4_below (f := f) hS (Below.refl _ _)
  obtain ⟨j0, j1, j2, j3⟩ := cells4_below (f := f) hS ((Below.refl _ _).alloc (Nat.le_refl _) (.cells #[.int .u64 (wd f 0 : Nat), .int .u64 (wd f 1 : Nat), .int .u64 (wd f 2 : Nat), .int .u64 (wd f 3 : Nat)] 25))
  go_wp2_with fail
  refine (cL _).mono ?_
  rintro e w2 ⟨rfl, hb2⟩
  have hX := first_block hb2
  have hS2 := block_below hS (below_2 hb2)
  obtain ⟨x0, x1, x2, x3⟩ := cells4_below (f := f) hX (Below.refl _ _)
  obtain ⟨s0, s1, s2, s3⟩ := cells4_below (f := f) hS2 (Below.refl _ _)
  have q0 := cell_regrown x0
  have q1 := cell_regrown x1
  have q2 := cell_regrown x2
  have q3 := cell_regrown x3
  have r0 := cell_regrown s0
  have r1 := cell_regrown s1
  have r2 := cell_regrown s2
  have r3 := cell_regrown s3
  have hall := below_after (below_2 hb1) (below_2 hb2)
  clear k0 k1 k2 k3 j0 j1 j2 j3 x0 x1 x2 x3 s0 s1 s2 s3
  go_wp2_with fail
  refine wp_region_quiet_below (by kernel_rfl) (by kernel_rfl) ?_
  repeat (quiet_step (first | (go_at_call 17; exact Calls.regrown_of (cH _)) | (go_at_call 18; exact Calls.regrown_of (cR _)) | (go_at_call 19; exact Calls.regrown_of (cT _)) | (go_at_call 20; exact Calls.regrown_of (cN _))))
  refine wpQuiet_nil ?_
  intro _ hw'
  obtain ⟨⟨dq, osq⟩, hw''⟩ := hw'
  subst hw''
  go_wp2
  go_ret
  exact ⟨rfl, below_after hall (below_regrown w2 dq osq)⟩

set_option maxRecDepth 100000 in
set_option maxHeartbeats 2000000 in
theorem walkCharsOf (s : ByteArray) (hs : s.size ≤ 140737488351232) (lo hi : Nat) (hlo : lo < 256) (hhi : hi < 256) (c : Nat) (hc : c < 256) (w : World) :
    Calls Try.prog 4 #[.string s, .agg #[.int .u8 lo, .int .u8 hi], .int .u8 c] w fun e w' => e = .returned (.bool true) ∧ Below w.heap.size w w' := by
  have cA := awake2_any
  have cO := of_any s (by omega)
  have cH := has_any (bytesIn s.data.toList) c hc
  have cI := in_any s c (by omega) hc
  have cR := range_any lo hi hlo hhi
  have cG := has_any (span lo hi) c hc
  unfold setV wordsA at cO cH cR cG
  by_cases hlong : 2000 < s.size
  · go_enter Try.func4, Try.ntmps4
    go_wp2_with fail
    refine (cA _).mono ?_
    rintro e w1 ⟨rfl, hb1⟩
    have hP := first_block hb1
    have p0 : w1.cell? ⟨w.heap.size, 0, none⟩ = some (.int .u8 lo) := cell_of hP 0
    have p1 : w1.cell? ⟨w.heap.size, 1, none⟩ = some (.int .u8 hi) := cell_of hP 1
    go_wp2_with fail
    go_ret
    exact ⟨rfl, below_2 hb1⟩
  · generalize hw : bytesIn s.data.toList c = b at cH cI
    clear hw
    rcases (show (c < lo) ∨ (lo ≤ c ∧ c ≤ hi) ∨ (lo ≤ c ∧ hi < c) from by omega) with h | ⟨h, h'⟩ | ⟨h, h'⟩
    · have hv : span lo hi c = false := by unfold span; simp; omega
      rw [hv] at cG
      clear hv
      go_enter Try.func4, Try.ntmps4
      go_wp2_with fail
      refine (cA _).mono ?_
      rintro e w1 ⟨rfl, hb1⟩
      have hP := first_block hb1
      have p0 : w1.cell? ⟨w.heap.size, 0, none⟩ = some (.int .u8 lo) := cell_of hP 0
      have p1 : w1.cell? ⟨w.heap.size, 1, none⟩ = some (.int .u8 hi) := cell_of hP 1
      go_wp2_with fail
      refine (cO _).mono ?_
      rintro e w2 ⟨rfl, hb2⟩
      go_wp2_with fail
      refine (cH _).mono ?_
      rintro e w3 ⟨rfl, hb3⟩
      go_wp2_with fail
      refine (cI _).mono ?_
      rintro e w4 ⟨rfl, hb4⟩
      go_wp2_with fail
      refine (cR _).mono ?_
      rintro e w5 ⟨rfl, hb5⟩
      go_wp2_with fail
      refine (cG _).mono ?_
      rintro e w6 ⟨rfl, hb6⟩
      go_wp2
      go_ret
      exact ⟨by first | rfl | exact ret_bool (by simp; omega), below_after (below_after (below_after (below_after (below_after (below_2 hb1) hb2) hb3) hb4) hb5) hb6⟩
    · have hv : span lo hi c = true := by unfold span; simp; omega
      rw [hv] at cG
      clear hv
      go_enter Try.func4, Try.ntmps4
      go_wp2_with fail
      refine (cA _).mono ?_
      rintro e w1 ⟨rfl, hb1⟩
      have hP := first_block hb1
      have p0 : w1.cell? ⟨w.heap.size, 0, none⟩ = some (.int .u8 lo) := cell_of hP 0
      have p1 : w1.cell? ⟨w.heap.size, 1, none⟩ = some (.int .u8 hi) := cell_of hP 1
      go_wp2_with fail
      refine (cO _).mono ?_
      rintro e w2 ⟨rfl, hb2⟩
      go_wp2_with fail
      refine (cH _).mono ?_
      rintro e w3 ⟨rfl, hb3⟩
      go_wp2_with fail
      refine (cI _).mono ?_
      rintro e w4 ⟨rfl, hb4⟩
      go_wp2_with fail
      refine (cR _).mono ?_
      rintro e w5 ⟨rfl, hb5⟩
      go_wp2_with fail
      refine (cG _).mono ?_
      rintro e w6 ⟨rfl, hb6⟩
      go_wp2
      go_ret
      exact ⟨by first | rfl | exact ret_bool (by simp; omega), below_after (below_after (below_after (below_after (below_after (below_2 hb1) hb2) hb3) hb4) hb5) hb6⟩
    · have hv : span lo hi c = false := by unfold span; simp; omega
      rw [hv] at cG
      clear hv
      go_enter Try.func4, Try.ntmps4
      go_wp2_with fail
      refine (cA _).mono ?_
      rintro e w1 ⟨rfl, hb1⟩
      have hP := first_block hb1
      have p0 : w1.cell? ⟨w.heap.size, 0, none⟩ = some (.int .u8 lo) := cell_of hP 0
      have p1 : w1.cell? ⟨w.heap.size, 1, none⟩ = some (.int .u8 hi) := cell_of hP 1
      go_wp2_with fail
      refine (cO _).mono ?_
      rintro e w2 ⟨rfl, hb2⟩
      go_wp2_with fail
      refine (cH _).mono ?_
      rintro e w3 ⟨rfl, hb3⟩
      go_wp2_with fail
      refine (cI _).mono ?_
      rintro e w4 ⟨rfl, hb4⟩
      go_wp2_with fail
      refine (cR _).mono ?_
      rintro e w5 ⟨rfl, hb5⟩
      go_wp2_with fail
      refine (cG _).mono ?_
      rintro e w6 ⟨rfl, hb6⟩
      go_wp2
      go_ret
      exact ⟨by first | rfl | exact ret_bool (by simp; omega), below_after (below_after (below_after (below_after (below_after (below_2 hb1) hb2) hb3) hb4) hb5) hb6⟩
end Go.Proofs.Ytmondgamackcgaa
