/- The walk of the law CharsClasses. -/
import Derived.Test.YtmondgamackcgaaAwake2
namespace Go.Proofs.Ytmondgamackcgaa
open Go.RowKit

set_option maxRecDepth 100000 in
set_option maxHeartbeats 4000000 in
theorem walkCharsClasses (c : Nat) (hc : c < 256) (w : World) :
    Calls Try.prog 7 #[.int .u8 c] w fun e w' => e = .returned (.bool true) ∧ Below w.heap.size w w' := by
  have cA := awake2_any
  have c_digit := digit_any
  have h_digit := has_any digitS c hc
  have r_digit := refDigit_any c hc
  generalize digitS c = b_digit at h_digit r_digit
  have c_alpha := alpha_any
  have h_alpha := has_any alphaS c hc
  have r_alpha := refAlpha_any c hc
  generalize alphaS c = b_alpha at h_alpha r_alpha
  have c_hex := hex_any
  have h_hex := has_any hexS c hc
  have r_hex := refHex_any c hc
  generalize hexS c = b_hex at h_hex r_hex
  have c_word := word_any
  have h_word := has_any wordS c hc
  have r_word := refWord_any c hc
  generalize wordS c = b_word at h_word r_word
  have c_unreserved := unreserved_any
  have h_unreserved := has_any unreservedS c hc
  have r_unreserved := refUnreserved_any c hc
  generalize unreservedS c = b_unreserved at h_unreserved r_unreserved
  have c_reserved := reserved_any
  have h_reserved := has_any reservedS c hc
  have r_reserved := refReserved_any c hc
  generalize reservedS c = b_reserved at h_reserved r_reserved
  have c_literal := literal_any
  have h_literal := has_any literalS c hc
  have r_literal := refLiteral_any c hc
  generalize literalS c = b_literal at h_literal r_literal
  unfold setV wordsA at c_digit h_digit c_alpha h_alpha c_hex h_hex c_word h_word c_unreserved h_unreserved c_reserved h_reserved c_literal h_literal
  go_enter Try.func7, Try.ntmps7
  go_wp2_with fail
  refine (cA _).mono ?_
  rintro e w1 ⟨rfl, hb1⟩
  go_wp2_with fail
  refine (c_digit _).mono ?_
  rintro e w2 ⟨rfl, hb2⟩
  have h2 := below_after hb1 hb2
  clear hb2 hb1
  go_wp2_with fail
  refine (h_digit _).mono ?_
  rintro e w3 ⟨rfl, hb3⟩
  have h3 := below_after h2 hb3
  clear hb3 h2
  go_wp2_with fail
  refine (r_digit _).mono ?_
  rintro e w4 ⟨rfl, hb4⟩
  have h4 := below_after h3 hb4
  clear hb4 h3
  go_wp2_with fail
  refine (c_alpha _).mono ?_
  rintro e w5 ⟨rfl, hb5⟩
  have h5 := below_after h4 hb5
  clear hb5 h4
  go_wp2_with fail
  refine (h_alpha _).mono ?_
  rintro e w6 ⟨rfl, hb6⟩
  have h6 := below_after h5 hb6
  clear hb6 h5
  go_wp2_with fail
  refine (r_alpha _).mono ?_
  rintro e w7 ⟨rfl, hb7⟩
  have h7 := below_after h6 hb7
  clear hb7 h6
  go_wp2_with fail
  refine (c_hex _).mono ?_
  rintro e w8 ⟨rfl, hb8⟩
  have h8 := below_after h7 hb8
  clear hb8 h7
  go_wp2_with fail
  refine (h_hex _).mono ?_
  rintro e w9 ⟨rfl, hb9⟩
  have h9 := below_after h8 hb9
  clear hb9 h8
  go_wp2_with fail
  refine (r_hex _).mono ?_
  rintro e w10 ⟨rfl, hb10⟩
  have h10 := below_after h9 hb10
  clear hb10 h9
  go_wp2_with fail
  refine (c_word _).mono ?_
  rintro e w11 ⟨rfl, hb11⟩
  have h11 := below_after h10 hb11
  clear hb11 h10
  go_wp2_with fail
  refine (h_word _).mono ?_
  rintro e w12 ⟨rfl, hb12⟩
  have h12 := below_after h11 hb12
  clear hb12 h11
  go_wp2_with fail
  refine (r_word _).mono ?_
  rintro e w13 ⟨rfl, hb13⟩
  have h13 := below_after h12 hb13
  clear hb13 h12
  go_wp2_with fail
  refine (c_unreserved _).mono ?_
  rintro e w14 ⟨rfl, hb14⟩
  have h14 := below_after h13 hb14
  clear hb14 h13
  go_wp2_with fail
  refine (h_unreserved _).mono ?_
  rintro e w15 ⟨rfl, hb15⟩
  have h15 := below_after h14 hb15
  clear hb15 h14
  go_wp2_with fail
  refine (r_unreserved _).mono ?_
  rintro e w16 ⟨rfl, hb16⟩
  have h16 := below_after h15 hb16
  clear hb16 h15
  go_wp2_with fail
  refine (c_reserved _).mono ?_
  rintro e w17 ⟨rfl, hb17⟩
  have h17 := below_after h16 hb17
  clear hb17 h16
  go_wp2_with fail
  refine (h_reserved _).mono ?_
  rintro e w18 ⟨rfl, hb18⟩
  have h18 := below_after h17 hb18
  clear hb18 h17
  go_wp2_with fail
  refine (r_reserved _).mono ?_
  rintro e w19 ⟨rfl, hb19⟩
  have h19 := below_after h18 hb19
  clear hb19 h18
  go_wp2_with fail
  refine (c_literal _).mono ?_
  rintro e w20 ⟨rfl, hb20⟩
  have h20 := below_after h19 hb20
  clear hb20 h19
  go_wp2_with fail
  refine (h_literal _).mono ?_
  rintro e w21 ⟨rfl, hb21⟩
  have h21 := below_after h20 hb21
  clear hb21 h20
  go_wp2_with fail
  refine (r_literal _).mono ?_
  rintro e w22 ⟨rfl, hb22⟩
  have h22 := below_after h21 hb22
  clear hb22 h21
  go_wp2
  go_ret
  exact ⟨rfl, h22⟩
end Go.Proofs.Ytmondgamackcgaa
