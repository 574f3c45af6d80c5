/- The contracts of phalaroperef02's functions of one byte, and of In. -/
import Derived.Test.YtmondgamackcgaaClassB
namespace Go.Proofs.Ytmondgamackcgaa
open Go.RowKit

theorem ret_bool {a b : Bool} (h : a = b) : Ending.returned (.bool a) = .returned (.bool b) := by rw [h]
theorem bytesIn_succ (s : ByteArray) (k : Nat) (h : k < s.size) (c : Nat) : bytesIn (s.data.toList.take (k + 1)) c = (bytesIn (s.data.toList.take k) c || c == (s[k]).toNat) := by
  rw [take_snoc s k h, bytesIn_snoc]

set_option maxHeartbeats 1000000 in
theorem in_any (s : ByteArray) (c : Nat) (hs : s.size ≤ 9223372036854775807) (_hc : c < 256) (w : World) :
    Calls Try.prog 22 #[.string s, .int .u8 c] w fun e w' => e = .returned (.bool (bytesIn s.data.toList c)) ∧ Below w.heap.size w w' := by
  go_enter Try.func22, Try.ntmps22
  go_wp2
  go_loop [5] (fun i => ∃ k : Nat, k ≤ s.size ∧ i = .int .i64 k ∧ Hid (bytesIn (s.data.toList.take k) c = false)) (fun i => s.size - (intOf i).toNat)
  case atStart => exact ⟨0, Nat.zero_le _, rfl, rfl⟩
  case round =>
    obtain ⟨k, hk, rfl, hno⟩ := hrel
    by_cases hlt : k < s.size
    · have Hs := Lib.hid (bytesIn_succ s k hlt c)
      by_cases heq : c = (s[k]).toNat
      · have hb : (((s[k]).toNat : Int) == (c : Int)) = true := by rw [heq]; simp
        have Hall : Hid (bytesIn s.data.toList c = true) := by
          show _ = true
          have h1 : bytesIn (s.data.toList.take (k + 1)) c = true := by rw [Hs.out, heq]; simp
          rw [← List.take_append_drop (k + 1) s.data.toList]
          unfold bytesIn at h1 ⊢
          rw [List.any_append, h1, Bool.true_or]
        have hk2 : k < 9223372036854775807 := by omega
        clear heq
        go_wp2
        go_ret
        exact ⟨by rw [Hall.out]; rfl, Below.refl _ _⟩
      · have hb : (((s[k]).toNat : Int) == (c : Int)) = false := by simp; omega
        have Hno : Hid (bytesIn (s.data.toList.take (k + 1)) c = false) := by
          show _ = false
          rw [Hs.out, hno.out]; simp [heq]
        clear heq
        go_wp2
        go_round
        case rel => exact ⟨k + 1, by omega, by go_num, Hno⟩
        case measure => simp [intOf]; omega
    · obtain rfl : k = s.size := by omega
      have h := hno.out
      rw [take_all] at h
      have Hall := Lib.hid h
      clear h hno
      go_wp2
      go_ret
      exact ⟨by rw [Hall.out]; rfl, Below.refl _ _⟩

set_option maxHeartbeats 1000000 in
theorem refDigit_any (c : Nat) (hc : c < 256) (w : World) :
    Calls Try.prog 28 #[.int .u8 c] w fun e w' => e = .returned (.bool (digitS c)) ∧ Below w.heap.size w w' := by
  rcases (show (0 ≤ c ∧ c ≤ 47) ∨ (48 ≤ c ∧ c ≤ 57) ∨ (58 ≤ c ∧ c ≤ 255) from by omega) with ⟨h1, h2⟩ | ⟨h1, h2⟩ | ⟨h1, h2⟩
  · have hv : digitS c = false := by simp only [digitS, span]; simp; omega
    rw [hv]
    clear hv
    go_enter Try.func28, Try.ntmps28
    go_wp2
    go_ret
    exact ⟨by first | rfl | exact ret_bool (by simp; omega) | exact ret_bool (by simp), Below.refl _ _⟩
  · have hv : digitS c = true := by simp only [digitS, span]; simp; omega
    rw [hv]
    clear hv
    go_enter Try.func28, Try.ntmps28
    go_wp2
    go_ret
    exact ⟨by first | rfl | exact ret_bool (by simp; omega) | exact ret_bool (by simp), Below.refl _ _⟩
  · have hv : digitS c = false := by simp only [digitS, span]; simp; omega
    rw [hv]
    clear hv
    go_enter Try.func28, Try.ntmps28
    go_wp2
    go_ret
    exact ⟨by first | rfl | exact ret_bool (by simp; omega) | exact ret_bool (by simp), Below.refl _ _⟩

set_option maxHeartbeats 1000000 in
theorem refAlpha_any (c : Nat) (hc : c < 256) (w : World) :
    Calls Try.prog 30 #[.int .u8 c] w fun e w' => e = .returned (.bool (alphaS c)) ∧ Below w.heap.size w w' := by
  rcases (show (0 ≤ c ∧ c ≤ 64) ∨ (65 ≤ c ∧ c ≤ 90) ∨ (91 ≤ c ∧ c ≤ 96) ∨ (97 ≤ c ∧ c ≤ 122) ∨ (123 ≤ c ∧ c ≤ 255) from by omega) with ⟨h1, h2⟩ | ⟨h1, h2⟩ | ⟨h1, h2⟩ | ⟨h1, h2⟩ | ⟨h1, h2⟩
  · have hv : alphaS c = false := by simp only [alphaS, anyOf, span, List.any_cons, List.any_nil]; simp; omega
    rw [hv]
    clear hv
    go_enter Try.func30, Try.ntmps30
    go_wp2
    go_ret
    exact ⟨by first | rfl | exact ret_bool (by simp; omega) | exact ret_bool (by simp), Below.refl _ _⟩
  · have hv : alphaS c = true := by simp only [alphaS, anyOf, span, List.any_cons, List.any_nil]; simp; omega
    rw [hv]
    clear hv
    go_enter Try.func30, Try.ntmps30
    go_wp2
    go_ret
    exact ⟨by first | rfl | exact ret_bool (by simp; omega) | exact ret_bool (by simp), Below.refl _ _⟩
  · have hv : alphaS c = false := by simp only [alphaS, anyOf, span, List.any_cons, List.any_nil]; simp; omega
    rw [hv]
    clear hv
    go_enter Try.func30, Try.ntmps30
    go_wp2
    go_ret
    exact ⟨by first | rfl | exact ret_bool (by simp; omega) | exact ret_bool (by simp), Below.refl _ _⟩
  · have hv : alphaS c = true := by simp only [alphaS, anyOf, span, List.any_cons, List.any_nil]; simp; omega
    rw [hv]
    clear hv
    go_enter Try.func30, Try.ntmps30
    go_wp2
    go_ret
    exact ⟨by first | rfl | exact ret_bool (by simp; omega) | exact ret_bool (by simp), Below.refl _ _⟩
  · have hv : alphaS c = false := by simp only [alphaS, anyOf, span, List.any_cons, List.any_nil]; simp; omega
    rw [hv]
    clear hv
    go_enter Try.func30, Try.ntmps30
    go_wp2
    go_ret
    exact ⟨by first | rfl | exact ret_bool (by simp; omega) | exact ret_bool (by simp), Below.refl _ _⟩

set_option maxHeartbeats 1000000 in
theorem refHex_any (c : Nat) (hc : c < 256) (w : World) :
    Calls Try.prog 32 #[.int .u8 c] w fun e w' => e = .returned (.bool (hexS c)) ∧ Below w.heap.size w w' := by
  rcases (show (0 ≤ c ∧ c ≤ 47) ∨ (48 ≤ c ∧ c ≤ 57) ∨ (58 ≤ c ∧ c ≤ 64) ∨ (65 ≤ c ∧ c ≤ 70) ∨ (71 ≤ c ∧ c ≤ 96) ∨ (97 ≤ c ∧ c ≤ 102) ∨ (103 ≤ c ∧ c ≤ 255) from by omega) with ⟨h1, h2⟩ | ⟨h1, h2⟩ | ⟨h1, h2⟩ | ⟨h1, h2⟩ | ⟨h1, h2⟩ | ⟨h1, h2⟩ | ⟨h1, h2⟩
  · have hv : hexS c = false := by simp only [hexS, digitS, anyOf, span, List.any_cons, List.any_nil]; simp; omega
    have hvDigit : digitS c = false := by simp only [digitS, span]; simp; omega
    have hDigit := refDigit_any c hc
    rw [hvDigit] at hDigit
    rw [hv]
    clear hv hvDigit
    go_enter Try.func32, Try.ntmps32
    go_wp2_with (first | (go_at_call 28; (with_reducible refine (hDigit _).mono ?_); rintro e w1 ⟨rfl, hbDigit⟩))
    go_ret
    exact ⟨by first | rfl | exact ret_bool (by simp; omega) | exact ret_bool (by simp), hbDigit⟩
  · have hv : hexS c = true := by simp only [hexS, digitS, anyOf, span, List.any_cons, List.any_nil]; simp; omega
    have hvDigit : digitS c = true := by simp only [digitS, span]; simp; omega
    have hDigit := refDigit_any c hc
    rw [hvDigit] at hDigit
    rw [hv]
    clear hv hvDigit
    go_enter Try.func32, Try.ntmps32
    go_wp2_with (first | (go_at_call 28; (with_reducible refine (hDigit _).mono ?_); rintro e w1 ⟨rfl, hbDigit⟩))
    go_ret
    exact ⟨by first | rfl | exact ret_bool (by simp; omega) | exact ret_bool (by simp), hbDigit⟩
  · have hv : hexS c = false := by simp only [hexS, digitS, anyOf, span, List.any_cons, List.any_nil]; simp; omega
    have hvDigit : digitS c = false := by simp only [digitS, span]; simp; omega
    have hDigit := refDigit_any c hc
    rw [hvDigit] at hDigit
    rw [hv]
    clear hv hvDigit
    go_enter Try.func32, Try.ntmps32
    go_wp2_with (first | (go_at_call 28; (with_reducible refine (hDigit _).mono ?_); rintro e w1 ⟨rfl, hbDigit⟩))
    go_ret
    exact ⟨by first | rfl | exact ret_bool (by simp; omega) | exact ret_bool (by simp), hbDigit⟩
  · have hv : hexS c = true := by simp only [hexS, digitS, anyOf, span, List.any_cons, List.any_nil]; simp; omega
    have hvDigit : digitS c = false := by simp only [digitS, span]; simp; omega
    have hDigit := refDigit_any c hc
    rw [hvDigit] at hDigit
    rw [hv]
    clear hv hvDigit
    go_enter Try.func32, Try.ntmps32
    go_wp2_with (first | (go_at_call 28; (with_reducible refine (hDigit _).mono ?_); rintro e w1 ⟨rfl, hbDigit⟩))
    go_ret
    exact ⟨by first | rfl | exact ret_bool (by simp; omega) | exact ret_bool (by simp), hbDigit⟩
  · have hv : hexS c = false := by simp only [hexS, digitS, anyOf, span, List.any_cons, List.any_nil]; simp; omega
    have hvDigit : digitS c = false := by simp only [digitS, span]; simp; omega
    have hDigit := refDigit_any c hc
    rw [hvDigit] at hDigit
    rw [hv]
    clear hv hvDigit
    go_enter Try.func32, Try.ntmps32
    go_wp2_with (first | (go_at_call 28; (with_reducible refine (hDigit _).mono ?_); rintro e w1 ⟨rfl, hbDigit⟩))
    go_ret
    exact ⟨by first | rfl | exact ret_bool (by simp; omega) | exact ret_bool (by simp), hbDigit⟩
  · have hv : hexS c = true := by simp only [hexS, digitS, anyOf, span, List.any_cons, List.any_nil]; simp; omega
    have hvDigit : digitS c = false := by simp only [digitS, span]; simp; omega
    have hDigit := refDigit_any c hc
    rw [hvDigit] at hDigit
    rw [hv]
    clear hv hvDigit
    go_enter Try.func32, Try.ntmps32
    go_wp2_with (first | (go_at_call 28; (with_reducible refine (hDigit _).mono ?_); rintro e w1 ⟨rfl, hbDigit⟩))
    go_ret
    exact ⟨by first | rfl | exact ret_bool (by simp; omega) | exact ret_bool (by simp), hbDigit⟩
  · have hv : hexS c = false := by simp only [hexS, digitS, anyOf, span, List.any_cons, List.any_nil]; simp; omega
    have hvDigit : digitS c = false := by simp only [digitS, span]; simp; omega
    have hDigit := refDigit_any c hc
    rw [hvDigit] at hDigit
    rw [hv]
    clear hv hvDigit
    go_enter Try.func32, Try.ntmps32
    go_wp2_with (first | (go_at_call 28; (with_reducible refine (hDigit _).mono ?_); rintro e w1 ⟨rfl, hbDigit⟩))
    go_ret
    exact ⟨by first | rfl | exact ret_bool (by simp; omega) | exact ret_bool (by simp), hbDigit⟩

set_option maxHeartbeats 1000000 in
theorem refWord_any (c : Nat) (hc : c < 256) (w : World) :
    Calls Try.prog 34 #[.int .u8 c] w fun e w' => e = .returned (.bool (wordS c)) ∧ Below w.heap.size w w' := by
  have hA := refAlpha_any c hc
  have hD := refDigit_any c hc
  have hv : wordS c = (alphaS c || (digitS c || bytesIn [95] c)) := by unfold wordS anyOf; simp
  rw [hv]
  clear hv
  have hI : ((c : Int) == 95) = bytesIn [95] c := by unfold bytesIn; rw [Bool.eq_iff_iff]; simp; omega
  generalize alphaS c = a at hA ⊢
  generalize digitS c = d at hD ⊢
  generalize bytesIn [95] c = b at hI ⊢
  cases a <;> cases d <;> cases b
  all_goals
    go_enter Try.func34, Try.ntmps34
    go_wp2_with (first | (go_at_call 30; (with_reducible refine (hA _).mono ?_); rintro e w1 ⟨rfl, hb1⟩) | (go_at_call 28; (with_reducible refine (hD _).mono ?_); rintro e w2 ⟨rfl, hb2⟩))
    go_ret
    exact ⟨rfl, by first | exact below_after (below_after hb1 hb2) hb3 | exact below_after hb1 hb2 | exact hb1⟩

set_option maxHeartbeats 1000000 in
theorem refUnreserved_any (c : Nat) (hc : c < 256) (w : World) :
    Calls Try.prog 36 #[.int .u8 c] w fun e w' => e = .returned (.bool (unreservedS c)) ∧ Below w.heap.size w w' := by
  have hA := refAlpha_any c hc
  have hD := refDigit_any c hc
  have hI := fun w => in_any (⟨#[45, 46, 95, 126]⟩ : ByteArray) c (by decide) hc w
  have hv : unreservedS c = (alphaS c || (digitS c || bytesIn [45, 46, 95, 126] c)) := by unfold unreservedS anyOf; simp
  rw [hv]
  clear hv
  change ∀ w, Calls _ _ _ w fun e w' => e = .returned (.bool (bytesIn [45, 46, 95, 126] c)) ∧ Below w.heap.size w w' at hI
  generalize alphaS c = a at hA ⊢
  generalize digitS c = d at hD ⊢
  generalize bytesIn [45, 46, 95, 126] c = b at hI ⊢
  cases a <;> cases d
  all_goals
    go_enter Try.func36, Try.ntmps36
    go_wp2_with (first | (go_at_call 30; (with_reducible refine (hA _).mono ?_); rintro e w1 ⟨rfl, hb1⟩) | (go_at_call 28; (with_reducible refine (hD _).mono ?_); rintro e w2 ⟨rfl, hb2⟩) | (go_at_call 22; (with_reducible refine (hI _).mono ?_); rintro e w3 ⟨rfl, hb3⟩))
    go_ret
    exact ⟨rfl, by first | exact below_after (below_after hb1 hb2) hb3 | exact below_after hb1 hb2 | exact hb1⟩

set_option maxHeartbeats 1000000 in
theorem refReserved_any (c : Nat) (hc : c < 256) (w : World) :
    Calls Try.prog 38 #[.int .u8 c] w fun e w' => e = .returned (.bool (reservedS c)) ∧ Below w.heap.size w w' := by
  have hI := fun w => in_any (⟨#[58, 47, 63, 35, 91, 93, 64, 33, 36, 38, 39, 40, 41, 42, 43, 44, 59, 61]⟩ : ByteArray) c (by decide) hc w
  change ∀ w, Calls _ _ _ w fun e w' => e = .returned (.bool (reservedS c)) ∧ Below w.heap.size w w' at hI
  go_enter Try.func38, Try.ntmps38
  go_wp2_with (go_at_call 22; (with_reducible refine (hI _).mono ?_); rintro e w3 ⟨rfl, hb3⟩)
  go_ret
  exact ⟨rfl, hb3⟩

set_option maxHeartbeats 1000000 in
theorem refLiteral_any (c : Nat) (hc : c < 256) (w : World) :
    Calls Try.prog 40 #[.int .u8 c] w fun e w' => e = .returned (.bool (literalS c)) ∧ Below w.heap.size w w' := by
  have hI := fun w => in_any (⟨#[34, 39, 37, 60, 62, 92, 94, 96, 123, 124, 125]⟩ : ByteArray) c (by decide) hc w
  change ∀ w, Calls _ _ _ w fun e w' => e = .returned (.bool (bytesIn [34, 39, 37, 60, 62, 92, 94, 96, 123, 124, 125] c)) ∧ Below w.heap.size w w' at hI
  have hv : literalS c = (span 33 126 c && !bytesIn [34, 39, 37, 60, 62, 92, 94, 96, 123, 124, 125] c) := rfl
  rw [hv]
  clear hv
  rcases (show c < 33 ∨ (33 ≤ c ∧ c ≤ 126) ∨ 126 < c from by omega) with h1 | h1 | h1
  · have hv : span 33 126 c = false := by unfold span; simp; omega
    rw [hv]
    clear hv
    generalize bytesIn [34, 39, 37, 60, 62, 92, 94, 96, 123, 124, 125] c = b at hI ⊢
    cases b
    all_goals
      go_enter Try.func40, Try.ntmps40
      go_wp2_with (go_at_call 22; (with_reducible refine (hI _).mono ?_); rintro e w3 ⟨rfl, hb3⟩)
      go_ret
      exact ⟨by first | rfl | exact ret_bool (by simp; omega) | exact ret_bool (by simp), by first | exact hb3 | exact Below.refl _ _⟩
  · have hv : span 33 126 c = true := by unfold span; simp; omega
    rw [hv]
    clear hv
    generalize bytesIn [34, 39, 37, 60, 62, 92, 94, 96, 123, 124, 125] c = b at hI ⊢
    cases b
    all_goals
      go_enter Try.func40, Try.ntmps40
      go_wp2_with (go_at_call 22; (with_reducible refine (hI _).mono ?_); rintro e w3 ⟨rfl, hb3⟩)
      go_ret
      exact ⟨by first | rfl | exact ret_bool (by simp; omega) | exact ret_bool (by simp), by first | exact hb3 | exact Below.refl _ _⟩
  · have hv : span 33 126 c = false := by unfold span; simp; omega
    rw [hv]
    clear hv
    generalize bytesIn [34, 39, 37, 60, 62, 92, 94, 96, 123, 124, 125] c = b at hI ⊢
    cases b
    all_goals
      go_enter Try.func40, Try.ntmps40
      go_wp2_with (go_at_call 22; (with_reducible refine (hI _).mono ?_); rintro e w3 ⟨rfl, hb3⟩)
      go_ret
      exact ⟨by first | rfl | exact ret_bool (by simp; omega) | exact ret_bool (by simp), by first | exact hb3 | exact Below.refl _ _⟩

end Go.Proofs.Ytmondgamackcgaa
