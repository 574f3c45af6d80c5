/- The walk of the law CharsApart. -/
import Derived.Test.YtmondgamackcgaaWalk2B
namespace Go.Proofs.Ytmondgamackcgaa
open Go.RowKit

theorem apart_facts : ∀ c, c < 256 → ((!(unreservedS c && reservedS c)) && ((!wordS c || unreservedS c) && ((!hexS c || unreservedS c) && (!literalS c || (unreservedS c || reservedS c))))) = true := by decide +kernel
theorem apart_words : wordsA (fun n => reservedS n && !literalS n) = wordsA (bytesIn [39]) := wordsA_congr (by decide +kernel)

set_option maxRecDepth 100000 in
set_option maxHeartbeats 8000000 in
theorem walkCharsApart (c : Nat) (hc : c < 256) (w : World) :
    Calls Try.prog 8 #[.int .u8 c] w fun e w' => e = .returned (.bool true) ∧ Below w.heap.size w w' := by
  have hf := apart_facts c hc
  have cA := awake2_any
  have cU := unreserved_any
  have cR := reserved_any
  have cW := word_any
  have cX := hex_any
  have cL := literal_any
  have hU := has_any unreservedS c hc
  have hR := has_any reservedS c hc
  have hW := has_any wordS c hc
  have hX := has_any hexS c hc
  have hL := has_any literalS c hc
  have cM : ∀ w, Calls Try.prog 25 #[setV reservedS, setV literalS] w fun e w' => e = .returned (setV (bytesIn [39])) ∧ Below w.heap.size w w' := fun w => by
    have h := minus_any reservedS literalS w
    unfold setV at h ⊢
    rw [apart_words] at h
    exact h
  have cO : ∀ w, Calls Try.prog 21 #[.string ⟨#[39]⟩] w fun e w' => e = .returned (setV (bytesIn [39])) ∧ Below w.heap.size w w' := fun w => of_any (⟨#[39]⟩ : ByteArray) (by decide) w
  have q : ∀ w, (Op.equalIn 10000 25 (setV (bytesIn [39])) (setV (bytesIn [39]))).run Try.prog w = .ok true w := fun w => by
    unfold setV wordsA
    rw [eqWords]
    simp
  generalize unreservedS c = u at hf hU
  generalize reservedS c = r at hf hR
  generalize wordS c = v at hf hW
  generalize hexS c = x at hf hX
  generalize literalS c = l at hf hL
  unfold setV wordsA at cU cR cW cX cL hU hR hW hX hL cM cO q
  go_enter Try.func8, Try.ntmps8
  go_wp2_with fail
  refine (cA _).mono ?_
  rintro e w1 ⟨rfl, hb1⟩
  go_wp2_with fail
  refine (cU _).mono ?_
  rintro e w2 ⟨rfl, hb2⟩
  go_wp2_with fail
  refine (cR _).mono ?_
  rintro e w3 ⟨rfl, hb3⟩
  have hX1 := first_block hb3
  obtain ⟨u0, u1, u2, u3⟩ := cells4_ever (f := unreservedS) hX1
  have h0 := below_after (below_after hb1 hb2) (below_2 hb3)
  have hr := Below.refl w3.heap.size w3
  have hs := hr.alloc (Nat.le_refl _) (.cells #[.int .u64 (wd reservedS 0 : Nat), .int .u64 (wd reservedS 1 : Nat), .int .u64 (wd reservedS 2 : Nat), .int .u64 (wd reservedS 3 : Nat)] 25)
  clear hb1 hb2 hb3 hX1
  go_wp2_with fail
  refine (hU _).mono ?_
  rintro e w4 ⟨rfl, hb4⟩
  have h := below_after hs hb4
  have hY := first_block hb4
  obtain ⟨r0, r1, r2, r3⟩ := cells4_ever (f := reservedS) hY
  have hr4 := Below.refl w4.heap.size w4
  have hall := below_after h0 h
  clear hY hb4 hr hs
  have hU4 : ∀ w', Below w4.heap.size w4 w' → Below w3.heap.size w3 w' := fun w' k => below_after h k
  have u0 := fun w' (k : Below w4.heap.size w4 w') => u0 w' (hU4 w' k)
  have u1 := fun w' (k : Below w4.heap.size w4 w') => u1 w' (hU4 w' k)
  have u2 := fun w' (k : Below w4.heap.size w4 w') => u2 w' (hU4 w' k)
  have u3 := fun w' (k : Below w4.heap.size w4 w') => u3 w' (hU4 w' k)
  have Hall := Lib.hid hall
  clear hU4 h hall h0
  have h := hr4
  clear hr4
  cases u <;> cases r <;> cases v <;> cases x <;> cases l <;> first | (exfalso; revert hf; decide) | (clear hf)
  all_goals
    go_wp2_with (first | (go_at_call 17; (first | (with_reducible refine (hU _).mono ?_) | (with_reducible refine (hR _).mono ?_) | (with_reducible refine (hW _).mono ?_) | (with_reducible refine (hX _).mono ?_) | (with_reducible refine (hL _).mono ?_)); rintro e wx ⟨rfl, hx⟩; have h := below_after h hx; clear hx) | (go_at_call 33; (with_reducible refine (cW _).mono ?_); rintro e wx ⟨rfl, hx⟩; have h := below_after h hx; clear hx) | (go_at_call 31; (with_reducible refine (cX _).mono ?_); rintro e wx ⟨rfl, hx⟩; have h := below_after h hx; clear hx) | (go_at_call 39; (with_reducible refine (cL _).mono ?_); rintro e wx ⟨rfl, hx⟩; have h := below_after h hx; clear hx) | (go_at_call 37; (with_reducible refine (cR _).mono ?_); rintro e wx ⟨rfl, hx⟩; have h := below_after h hx; clear hx) | (go_at_call 25; (with_reducible refine (cM _).mono ?_); rintro e wx ⟨rfl, hx⟩; have h := below_after h hx; clear hx) | (go_at_call 21; (with_reducible refine (cO _).mono ?_); rintro e wx ⟨rfl, hx⟩; have h := below_after h hx; clear hx))
    go_ret
    exact ⟨rfl, below_after Hall.out h⟩
end Go.Proofs.Ytmondgamackcgaa
