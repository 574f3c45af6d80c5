/- phalaropelaw02.awake answers true. -/
import Derived.Test.YtmondgamackcgaaRefA
import Derived.Test.YtmondgamackcgaaRefB
namespace Go.Proofs.Ytmondgamackcgaa
open Go.RowKit

theorem digit_list : listTo digitS 256 = [48, 49, 50, 51, 52, 53, 54, 55, 56, 57] := by decide +kernel
theorem reserved_len : (listTo reservedS 256).length = 18 := by decide +kernel

set_option maxRecDepth 100000 in
set_option maxHeartbeats 1000000 in
theorem awake2_any (w : World) : Calls Try.prog 15 #[] w fun e w' => e = .returned (.bool true) ∧ Below w.heap.size w w' := by
  have cD := digit_any
  have cL : ∀ w, Calls Try.prog 20 #[setV digitS] w fun e w' => e = .returned (.int .i64 10) ∧ Below w.heap.size w w' := fun w => by have h := len_any digitS w; rw [digit_list] at h; exact h
  have c7 : ∀ w, Calls Try.prog 17 #[setV digitS, .int .u8 55] w fun e w' => e = .returned (.bool true) ∧ Below w.heap.size w w' := fun w => has_any digitS 55 (by omega) w
  have ca : ∀ w, Calls Try.prog 17 #[setV digitS, .int .u8 97] w fun e w' => e = .returned (.bool false) ∧ Below w.heap.size w w' := fun w => has_any digitS 97 (by omega) w
  have cT : ∀ w, Calls Try.prog 19 #[setV digitS] w fun e w' => e = .returned (.string ⟨#[48, 49, 50, 51, 52, 53, 54, 55, 56, 57]⟩) ∧ Below w.heap.size w w' := fun w => by have h := list_any digitS w; rw [digit_list] at h; exact h
  have cR := reserved_any
  have cS : ∀ w, Calls Try.prog 20 #[setV reservedS] w fun e w' => e = .returned (.int .i64 18) ∧ Below w.heap.size w w' := fun w => by have h := len_any reservedS w; rw [reserved_len] at h; exact h
  unfold setV wordsA at cD cL c7 ca cT cR cS
  go_enter Try.func15, Try.ntmps15
  go_wp2_with fail
  refine (cD _).mono ?_
  rintro e w1 ⟨rfl, hb1⟩
  go_wp2_with fail
  refine (cL _).mono ?_
  rintro e w2 ⟨rfl, hb2⟩
  have hA := first_block hb2
  obtain ⟨k0, k1, k2, k3⟩ := cells4_below (f := digitS) hA (Below.refl _ _)
  go_wp2_with fail
  refine (c7 _).mono ?_
  rintro e w3 ⟨rfl, hb3⟩
  obtain ⟨l0, l1, l2, l3⟩ := cells4_below (f := digitS) hA hb3
  go_wp2_with fail
  refine (ca _).mono ?_
  rintro e w4 ⟨rfl, hb4⟩
  obtain ⟨m0, m1, m2, m3⟩ := cells4_below (f := digitS) hA (below_after hb3 hb4)
  go_wp2_with fail
  refine (cT _).mono ?_
  rintro e w5 ⟨rfl, hb5⟩
  go_wp2_with fail
  refine (cR _).mono ?_
  rintro e w6 ⟨rfl, hb6⟩
  go_wp2_with fail
  refine (cS _).mono ?_
  rintro e w7 ⟨rfl, hb7⟩
  go_wp2
  go_ret
  exact ⟨rfl, below_after (below_after (below_after (below_after (below_after (below_after hb1 (below_2 hb2)) hb3) hb4) hb5) hb6) hb7⟩
end Go.Proofs.Ytmondgamackcgaa
