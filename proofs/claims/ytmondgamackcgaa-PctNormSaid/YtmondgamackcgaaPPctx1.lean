-- PRINTED by print.py (a twelfth state) out of the translation. Not trusted: Lean checks it.
import Derived.Test.YtmondgamackcgaaPPctx0
namespace Go.Proofs.Ytmondgamackcgaa.PPct
open Go.RowKit Go.Proofs.YtmondgamackcgaaW.PrintWords Go.Proofs.YtmondgamackcgaaW.PrintLast Go.Proofs.YtmondgamackcgaaW.PrintMore
attribute [local go_sem] max2_int min2_int max_two min_two max_three min_three max_four min_four   -- for this text's walks alone
set_option linter.unusedVariables false
set_option linter.unusedSimpArgs false

/-! ### pct_Triplet: function 46 -/
def pct_Triplet.f (a0 : ByteArray) : Option (Bool) := if a0.size ≤ 1000000 then some (tripU a0).isSome else none
theorem pct_Triplet.calls (a0 : ByteArray) (r : Bool) (w : World) (h : pct_Triplet.f a0 = some r) :
    Calls Try.prog 46 #[.string a0] w fun e w' => e = .returned (.bool r) ∧ Below w.heap.size w w' := by
  unfold pct_Triplet.f at h
  split at h
  · injection h with h
    subst h
    exact triplet_any a0 (by omega) w
  · cases h

/-! ### pct_Decode: function 48 -/
def pct_Decode.f (a0 : ByteArray) : Option (ByteArray × Bool) := if a0.size ≤ 1000000 then (if (decL 0 (nats a0)).2 = true then some (bytesN (decL 0 (nats a0)).1, true) else some (⟨#[]⟩, false)) else none
theorem pct_Decode.calls (a0 : ByteArray) (r1 : ByteArray) (r2 : Bool) (w : World) (h : pct_Decode.f a0 = some (r1, r2)) :
    Calls Try.prog 48 #[.string a0] w fun e w' => e = .returned (.tuple #[.string r1, .bool r2]) ∧ Below w.heap.size w w' := by
  unfold pct_Decode.f at h
  split at h
  · split at h
    · injection h with h
      injection h with h1 h2
      subst h1; subst h2
      exact decode_yes a0 (by assumption) (by assumption) w
    · rename_i hn
      injection h with h
      injection h with h1 h2
      subst h1; subst h2
      exact decode_no a0 (by assumption) (by simpa using hn) w
  · cases h

/-! ### pct_Encode: function 50 -/
def pct_Encode.f (a0 : ByteArray) (a1 : Bool) : Option (ByteArray) := if a0.size ≤ 1000000 then some (bytesN (encL a1 (nats a0))) else none
theorem pct_Encode.calls (a0 : ByteArray) (a1 : Bool) (r : ByteArray) (w : World) (h : pct_Encode.f a0 a1 = some r) :
    Calls Try.prog 50 #[.string a0, .bool a1] w fun e w' => e = .returned (.string r) ∧ Below w.heap.size w w' := by
  unfold pct_Encode.f at h
  split at h
  · injection h with h
    subst h
    cases a1
    · exact encode_no a0 (by assumption) w
    · exact encode_yes a0 (by assumption) w
  · cases h

/-! ### pct_Norm: function 52 -/
def pct_Norm.f (a0 : ByteArray) : Option (ByteArray) := if a0.size ≤ 1000000 then some (bytesN (normL 0 (nats a0))) else none
theorem pct_Norm.calls (a0 : ByteArray) (r : ByteArray) (w : World) (h : pct_Norm.f a0 = some r) :
    Calls Try.prog 52 #[.string a0] w fun e w' => e = .returned (.string r) ∧ Below w.heap.size w w' := by
  unfold pct_Norm.f at h
  split at h
  · injection h with h
    subst h
    exact norm_any a0 (by assumption) w
  · cases h

/-! ### phalaropelaw03_awake: function 41 -/
def phalaropelaw03_awake.f  : Option (Bool) := (pct_Decode.f (⟨#[37, 50, 48, 37, 101, 57]⟩ : ByteArray)).bind fun bt101 => ((pct_Encode.f (⟨#[32, 47, 37, 52, 49]⟩ : ByteArray) true).bind fun t103 => (if t103.toList = ([37, 50, 48, 47, 37, 52, 49] : List UInt8) then ((pct_Encode.f (⟨#[32, 47, 37, 52, 49]⟩ : ByteArray) false).bind fun t104 => (if t104.toList = ([37, 50, 48, 37, 50, 70, 37, 50, 53, 52, 49] : List UInt8) then (if bt101.2 = true then (if bt101.1.toList = ([32, 233] : List UInt8) then ((pct_Norm.f (⟨#[37, 101, 57, 37, 103]⟩ : ByteArray)).bind fun t105 => (if t105.toList = ([37, 69, 57, 37, 103] : List UInt8) then ((pct_Triplet.f (⟨#[37, 97, 70]⟩ : ByteArray)).bind fun t106 => (if t106 = true then ((pct_Triplet.f (⟨#[37, 97, 71]⟩ : ByteArray)).bind fun t107 => (some (!t107))) else (some false))) else (some false))) else (some false)) else (some false)) else (some false))) else (some false)))
set_option maxHeartbeats 8000000 in
set_option maxRecDepth 100000 in
theorem phalaropelaw03_awake.calls  (r : Bool) (w : World) (h : phalaropelaw03_awake.f  = some r) :
    Calls Try.prog 41 #[] w fun e w' => e = .returned (.bool r) ∧ Below w.heap.size w w' := by
  have HB := Aside0.mk (Below.refl w.heap.size w)
  have H : ((pct_Decode.f (⟨#[37, 50, 48, 37, 101, 57]⟩ : ByteArray)).bind fun bt101 => ((pct_Encode.f (⟨#[32, 47, 37, 52, 49]⟩ : ByteArray) true).bind fun t103 => (if t103.toList = ([37, 50, 48, 47, 37, 52, 49] : List UInt8) then ((pct_Encode.f (⟨#[32, 47, 37, 52, 49]⟩ : ByteArray) false).bind fun t104 => (if t104.toList = ([37, 50, 48, 37, 50, 70, 37, 50, 53, 52, 49] : List UInt8) then (if bt101.2 = true then (if bt101.1.toList = ([32, 233] : List UInt8) then ((pct_Norm.f (⟨#[37, 101, 57, 37, 103]⟩ : ByteArray)).bind fun t105 => (if t105.toList = ([37, 69, 57, 37, 103] : List UInt8) then ((pct_Triplet.f (⟨#[37, 97, 70]⟩ : ByteArray)).bind fun t106 => (if t106 = true then ((pct_Triplet.f (⟨#[37, 97, 71]⟩ : ByteArray)).bind fun t107 => (some (!t107))) else (some false))) else (some false))) else (some false)) else (some false)) else (some false))) else (some false)))) = some r := h
  clear h
  replace H := Option.bind_eq_some_iff.mp H
  obtain ⟨⟨t101, t102⟩, A10, H⟩ := H
  replace H : ((pct_Encode.f (⟨#[32, 47, 37, 52, 49]⟩ : ByteArray) true).bind fun t103 => (if t103.toList = ([37, 50, 48, 47, 37, 52, 49] : List UInt8) then ((pct_Encode.f (⟨#[32, 47, 37, 52, 49]⟩ : ByteArray) false).bind fun t104 => (if t104.toList = ([37, 50, 48, 37, 50, 70, 37, 50, 53, 52, 49] : List UInt8) then (if t102 = true then (if t101.toList = ([32, 233] : List UInt8) then ((pct_Norm.f (⟨#[37, 101, 57, 37, 103]⟩ : ByteArray)).bind fun t105 => (if t105.toList = ([37, 69, 57, 37, 103] : List UInt8) then ((pct_Triplet.f (⟨#[37, 97, 70]⟩ : ByteArray)).bind fun t106 => (if t106 = true then ((pct_Triplet.f (⟨#[37, 97, 71]⟩ : ByteArray)).bind fun t107 => (some (!t107))) else (some false))) else (some false))) else (some false)) else (some false)) else (some false))) else (some false))) = some r := H
  have A1 := Aside0.mk A10
  clear A10
  replace H := Option.bind_eq_some_iff.mp H
  obtain ⟨t103, A20, H⟩ := H
  replace H : (if t103.toList = ([37, 50, 48, 47, 37, 52, 49] : List UInt8) then ((pct_Encode.f (⟨#[32, 47, 37, 52, 49]⟩ : ByteArray) false).bind fun t104 => (if t104.toList = ([37, 50, 48, 37, 50, 70, 37, 50, 53, 52, 49] : List UInt8) then (if t102 = true then (if t101.toList = ([32, 233] : List UInt8) then ((pct_Norm.f (⟨#[37, 101, 57, 37, 103]⟩ : ByteArray)).bind fun t105 => (if t105.toList = ([37, 69, 57, 37, 103] : List UInt8) then ((pct_Triplet.f (⟨#[37, 97, 70]⟩ : ByteArray)).bind fun t106 => (if t106 = true then ((pct_Triplet.f (⟨#[37, 97, 71]⟩ : ByteArray)).bind fun t107 => (some (!t107))) else (some false))) else (some false))) else (some false)) else (some false)) else (some false))) else (some false)) = some r := H
  have A2 := Aside0.mk A20
  clear A20
  by_cases c3 : t103.toList = ([37, 50, 48, 47, 37, 52, 49] : List UInt8)
  · rw [if_pos c3] at H
    have c3b0 : (t103.toList == ([37, 50, 48, 47, 37, 52, 49] : List UInt8)) = true := beq_iff_eq.mpr c3
    have c3b1 : (t103.toList != ([37, 50, 48, 47, 37, 52, 49] : List UInt8)) = false := bne_eq_false_iff_eq.mpr c3
    clear c3
    replace H := Option.bind_eq_some_iff.mp H
    obtain ⟨t104, A40, H⟩ := H
    replace H : (if t104.toList = ([37, 50, 48, 37, 50, 70, 37, 50, 53, 52, 49] : List UInt8) then (if t102 = true then (if t101.toList = ([32, 233] : List UInt8) then ((pct_Norm.f (⟨#[37, 101, 57, 37, 103]⟩ : ByteArray)).bind fun t105 => (if t105.toList = ([37, 69, 57, 37, 103] : List UInt8) then ((pct_Triplet.f (⟨#[37, 97, 70]⟩ : ByteArray)).bind fun t106 => (if t106 = true then ((pct_Triplet.f (⟨#[37, 97, 71]⟩ : ByteArray)).bind fun t107 => (some (!t107))) else (some false))) else (some false))) else (some false)) else (some false)) else (some false)) = some r := H
    have A4 := Aside0.mk A40
    clear A40
    by_cases c5 : t104.toList = ([37, 50, 48, 37, 50, 70, 37, 50, 53, 52, 49] : List UInt8)
    · rw [if_pos c5] at H
      have c5b0 : (t104.toList == ([37, 50, 48, 37, 50, 70, 37, 50, 53, 52, 49] : List UInt8)) = true := beq_iff_eq.mpr c5
      have c5b1 : (t104.toList != ([37, 50, 48, 37, 50, 70, 37, 50, 53, 52, 49] : List UInt8)) = false := bne_eq_false_iff_eq.mpr c5
      clear c5
      by_cases c6 : t102 = true
      · subst c6
        have H1 : (if t101.toList = ([32, 233] : List UInt8) then ((pct_Norm.f (⟨#[37, 101, 57, 37, 103]⟩ : ByteArray)).bind fun t105 => (if t105.toList = ([37, 69, 57, 37, 103] : List UInt8) then ((pct_Triplet.f (⟨#[37, 97, 70]⟩ : ByteArray)).bind fun t106 => (if t106 = true then ((pct_Triplet.f (⟨#[37, 97, 71]⟩ : ByteArray)).bind fun t107 => (some (!t107))) else (some false))) else (some false))) else (some false)) = some r := by rw [if_pos rfl] at H; exact H
        clear H
        have H := H1
        clear H1
        by_cases c7 : t101.toList = ([32, 233] : List UInt8)
        · rw [if_pos c7] at H
          have c7b0 : (t101.toList == ([32, 233] : List UInt8)) = true := beq_iff_eq.mpr c7
          have c7b1 : (t101.toList != ([32, 233] : List UInt8)) = false := bne_eq_false_iff_eq.mpr c7
          clear c7
          replace H := Option.bind_eq_some_iff.mp H
          obtain ⟨t105, A80, H⟩ := H
          replace H : (if t105.toList = ([37, 69, 57, 37, 103] : List UInt8) then ((pct_Triplet.f (⟨#[37, 97, 70]⟩ : ByteArray)).bind fun t106 => (if t106 = true then ((pct_Triplet.f (⟨#[37, 97, 71]⟩ : ByteArray)).bind fun t107 => (some (!t107))) else (some false))) else (some false)) = some r := H
          have A8 := Aside0.mk A80
          clear A80
          by_cases c9 : t105.toList = ([37, 69, 57, 37, 103] : List UInt8)
          · rw [if_pos c9] at H
            have c9b0 : (t105.toList == ([37, 69, 57, 37, 103] : List UInt8)) = true := beq_iff_eq.mpr c9
            have c9b1 : (t105.toList != ([37, 69, 57, 37, 103] : List UInt8)) = false := bne_eq_false_iff_eq.mpr c9
            clear c9
            replace H := Option.bind_eq_some_iff.mp H
            obtain ⟨t106, A100, H⟩ := H
            replace H : (if t106 = true then ((pct_Triplet.f (⟨#[37, 97, 71]⟩ : ByteArray)).bind fun t107 => (some (!t107))) else (some false)) = some r := H
            have A10 := Aside0.mk A100
            clear A100
            by_cases c11 : t106 = true
            · subst c11
              have H1 : ((pct_Triplet.f (⟨#[37, 97, 71]⟩ : ByteArray)).bind fun t107 => (some (!t107))) = some r := by rw [if_pos rfl] at H; exact H
              clear H
              have H := H1
              clear H1
              replace H := Option.bind_eq_some_iff.mp H
              obtain ⟨t107, A120, H⟩ := H
              replace H : (some (!t107)) = some r := H
              have A12 := Aside0.mk A120
              clear A120
              obtain rfl := Option.some.inj H
              go_enter Try.func41, Try.ntmps41
              go_wp2_with (first | ((with_reducible refine gate_callee (f := 48) rfl ?_); refine goesL_ (some 4) rfl rfl Try.func48 (by kernel_rfl) rfl #[.string (⟨#[37, 50, 48, 37, 101, 57]⟩ : ByteArray)] rfl (by (try simp only [List.map_toArray, List.map_cons, List.map_nil]); first | done | rfl | (simp only [List.length_drop, List.length_take]; rfl)) ?_; (with_reducible refine (pct_Decode.calls (⟨#[37, 50, 48, 37, 101, 57]⟩ : ByteArray) t101 true _ A1.out).mono ?_); rintro e w13 ⟨rfl, hb⟩; refine ⟨_, rfl, ?_⟩; have n0_ := Aside0.mk (below_step (by repeat (first | (with_reducible first | exact HB.out | apply below_alloc | apply pw_below_drewN | apply below_drew1) | exact HB.out)) hb); clear HB; have HB := n0_; clear n0_; (try clear hb); (try clear hb2); (try clear hk); (try clear hi)) | ((with_reducible refine gate_callee (f := 50) rfl ?_); refine goesL_ (some 7) rfl rfl Try.func50 (by kernel_rfl) rfl #[.string (⟨#[32, 47, 37, 52, 49]⟩ : ByteArray), .bool true] rfl (by (try simp only [List.map_toArray, List.map_cons, List.map_nil]); first | done | rfl | (simp only [List.length_drop, List.length_take]; rfl)) ?_; (with_reducible refine (pct_Encode.calls (⟨#[32, 47, 37, 52, 49]⟩ : ByteArray) true t103 _ A2.out).mono ?_); rintro e w14 ⟨rfl, hb⟩; refine ⟨_, rfl, ?_⟩; have n0_ := Aside0.mk (below_step (by repeat (first | (with_reducible first | exact HB.out | apply below_alloc | apply pw_below_drewN | apply below_drew1) | exact HB.out)) hb); clear HB; have HB := n0_; clear n0_; (try clear hb); (try clear hb2); (try clear hk); (try clear hi)) | (go_at_call 50; (with_reducible refine (pct_Encode.calls (⟨#[32, 47, 37, 52, 49]⟩ : ByteArray) false t104 _ A4.out).mono ?_); rintro e w15 ⟨rfl, hb⟩; have n0_ := Aside0.mk (below_step (by repeat (first | (with_reducible first | exact HB.out | apply below_alloc | apply pw_below_drewN | apply below_drew1) | exact HB.out)) hb); clear HB; have HB := n0_; clear n0_; (try clear hb); (try clear hb2); (try clear hk); (try clear hi)) | (go_at_call 52; (with_reducible refine (pct_Norm.calls (⟨#[37, 101, 57, 37, 103]⟩ : ByteArray) t105 _ A8.out).mono ?_); rintro e w16 ⟨rfl, hb⟩; have n0_ := Aside0.mk (below_step (by repeat (first | (with_reducible first | exact HB.out | apply below_alloc | apply pw_below_drewN | apply below_drew1) | exact HB.out)) hb); clear HB; have HB := n0_; clear n0_; (try clear hb); (try clear hb2); (try clear hk); (try clear hi)) | (go_at_call 46; (with_reducible refine (pct_Triplet.calls (⟨#[37, 97, 70]⟩ : ByteArray) true _ A10.out).mono ?_); rintro e w17 ⟨rfl, hb⟩; have n0_ := Aside0.mk (below_step (by repeat (first | (with_reducible first | exact HB.out | apply below_alloc | apply pw_below_drewN | apply below_drew1) | exact HB.out)) hb); clear HB; have HB := n0_; clear n0_; (try clear hb); (try clear hb2); (try clear hk); (try clear hi)) | (go_at_call 46; (with_reducible refine (pct_Triplet.calls (⟨#[37, 97, 71]⟩ : ByteArray) t107 _ A12.out).mono ?_); rintro e w18 ⟨rfl, hb⟩; have n0_ := Aside0.mk (below_step (by repeat (first | (with_reducible first | exact HB.out | apply below_alloc | apply pw_below_drewN | apply below_drew1) | exact HB.out)) hb); clear HB; have HB := n0_; clear n0_; (try clear hb); (try clear hb2); (try clear hk); (try clear hi)))
              go_ret
              exact ⟨by first | rfl | (simp [errW_none, errW_some] <;> rfl) | (simp [*, errW_none, errW_some] <;> rfl), by repeat (first | (with_reducible first | exact HB.out | apply below_alloc | apply pw_below_drewN | apply below_drew1) | exact HB.out)⟩
            · replace c11 := Bool.eq_false_iff.mpr c11
              subst c11
              have H1 : (some false) = some r := by rw [if_neg (show ¬ (false = true) by decide)] at H; exact H
              clear H
              have H := H1
              clear H1
              obtain rfl := Option.some.inj H
              go_enter Try.func41, Try.ntmps41
              go_wp2_with (first | ((with_reducible refine gate_callee (f := 48) rfl ?_); refine goesL_ (some 4) rfl rfl Try.func48 (by kernel_rfl) rfl #[.string (⟨#[37, 50, 48, 37, 101, 57]⟩ : ByteArray)] rfl (by (try simp only [List.map_toArray, List.map_cons, List.map_nil]); first | done | rfl | (simp only [List.length_drop, List.length_take]; rfl)) ?_; (with_reducible refine (pct_Decode.calls (⟨#[37, 50, 48, 37, 101, 57]⟩ : ByteArray) t101 true _ A1.out).mono ?_); rintro e w19 ⟨rfl, hb⟩; refine ⟨_, rfl, ?_⟩; have n0_ := Aside0.mk (below_step (by repeat (first | (with_reducible first | exact HB.out | apply below_alloc | apply pw_below_drewN | apply below_drew1) | exact HB.out)) hb); clear HB; have HB := n0_; clear n0_; (try clear hb); (try clear hb2); (try clear hk); (try clear hi)) | ((with_reducible refine gate_callee (f := 50) rfl ?_); refine goesL_ (some 7) rfl rfl Try.func50 (by kernel_rfl) rfl #[.string (⟨#[32, 47, 37, 52, 49]⟩ : ByteArray), .bool true] rfl (by (try simp only [List.map_toArray, List.map_cons, List.map_nil]); first | done | rfl | (simp only [List.length_drop, List.length_take]; rfl)) ?_; (with_reducible refine (pct_Encode.calls (⟨#[32, 47, 37, 52, 49]⟩ : ByteArray) true t103 _ A2.out).mono ?_); rintro e w20 ⟨rfl, hb⟩; refine ⟨_, rfl, ?_⟩; have n0_ := Aside0.mk (below_step (by repeat (first | (with_reducible first | exact HB.out | apply below_alloc | apply pw_below_drewN | apply below_drew1) | exact HB.out)) hb); clear HB; have HB := n0_; clear n0_; (try clear hb); (try clear hb2); (try clear hk); (try clear hi)) | (go_at_call 50; (with_reducible refine (pct_Encode.calls (⟨#[32, 47, 37, 52, 49]⟩ : ByteArray) false t104 _ A4.out).mono ?_); rintro e w21 ⟨rfl, hb⟩; have n0_ := Aside0.mk (below_step (by repeat (first | (with_reducible first | exact HB.out | apply below_alloc | apply pw_below_drewN | apply below_drew1) | exact HB.out)) hb); clear HB; have HB := n0_; clear n0_; (try clear hb); (try clear hb2); (try clear hk); (try clear hi)) | (go_at_call 52; (with_reducible refine (pct_Norm.calls (⟨#[37, 101, 57, 37, 103]⟩ : ByteArray) t105 _ A8.out).mono ?_); rintro e w22 ⟨rfl, hb⟩; have n0_ := Aside0.mk (below_step (by repeat (first | (with_reducible first | exact HB.out | apply below_alloc | apply pw_below_drewN | apply below_drew1) | exact HB.out)) hb); clear HB; have HB := n0_; clear n0_; (try clear hb); (try clear hb2); (try clear hk); (try clear hi)) | (go_at_call 46; (with_reducible refine (pct_Triplet.calls (⟨#[37, 97, 70]⟩ : ByteArray) false _ A10.out).mono ?_); rintro e w23 ⟨rfl, hb⟩; have n0_ := Aside0.mk (below_step (by repeat (first | (with_reducible first | exact HB.out | apply below_alloc | apply pw_below_drewN | apply below_drew1) | exact HB.out)) hb); clear HB; have HB := n0_; clear n0_; (try clear hb); (try clear hb2); (try clear hk); (try clear hi)))
              go_ret
              exact ⟨by first | rfl | (simp [errW_none, errW_some] <;> rfl) | (simp [*, errW_none, errW_some] <;> rfl), by repeat (first | (with_reducible first | exact HB.out | apply below_alloc | apply pw_below_drewN | apply below_drew1) | exact HB.out)⟩
          · rw [if_neg c9] at H
            have c9b0 : (t105.toList == ([37, 69, 57, 37, 103] : List UInt8)) = false := beq_eq_false_iff_ne.mpr c9
            have c9b1 : (t105.toList != ([37, 69, 57, 37, 103] : List UInt8)) = true := bne_iff_ne.mpr c9
            obtain rfl := Option.some.inj H
            go_enter Try.func41, Try.ntmps41
            go_wp2_with (first | ((with_reducible refine gate_callee (f := 48) rfl ?_); refine goesL_ (some 4) rfl rfl Try.func48 (by kernel_rfl) rfl #[.string (⟨#[37, 50, 48, 37, 101, 57]⟩ : ByteArray)] rfl (by (try simp only [List.map_toArray, List.map_cons, List.map_nil]); first | done | rfl | (simp only [List.length_drop, List.length_take]; rfl)) ?_; (with_reducible refine (pct_Decode.calls (⟨#[37, 50, 48, 37, 101, 57]⟩ : ByteArray) t101 true _ A1.out).mono ?_); rintro e w24 ⟨rfl, hb⟩; refine ⟨_, rfl, ?_⟩; have n0_ := Aside0.mk (below_step (by repeat (first | (with_reducible first | exact HB.out | apply below_alloc | apply pw_below_drewN | apply below_drew1) | exact HB.out)) hb); clear HB; have HB := n0_; clear n0_; (try clear hb); (try clear hb2); (try clear hk); (try clear hi)) | ((with_reducible refine gate_callee (f := 50) rfl ?_); refine goesL_ (some 7) rfl rfl Try.func50 (by kernel_rfl) rfl #[.string (⟨#[32, 47, 37, 52, 49]⟩ : ByteArray), .bool true] rfl (by (try simp only [List.map_toArray, List.map_cons, List.map_nil]); first | done | rfl | (simp only [List.length_drop, List.length_take]; rfl)) ?_; (with_reducible refine (pct_Encode.calls (⟨#[32, 47, 37, 52, 49]⟩ : ByteArray) true t103 _ A2.out).mono ?_); rintro e w25 ⟨rfl, hb⟩; refine ⟨_, rfl, ?_⟩; have n0_ := Aside0.mk (below_step (by repeat (first | (with_reducible first | exact HB.out | apply below_alloc | apply pw_below_drewN | apply below_drew1) | exact HB.out)) hb); clear HB; have HB := n0_; clear n0_; (try clear hb); (try clear hb2); (try clear hk); (try clear hi)) | (go_at_call 50; (with_reducible refine (pct_Encode.calls (⟨#[32, 47, 37, 52, 49]⟩ : ByteArray) false t104 _ A4.out).mono ?_); rintro e w26 ⟨rfl, hb⟩; have n0_ := Aside0.mk (below_step (by repeat (first | (with_reducible first | exact HB.out | apply below_alloc | apply pw_below_drewN | apply below_drew1) | exact HB.out)) hb); clear HB; have HB := n0_; clear n0_; (try clear hb); (try clear hb2); (try clear hk); (try clear hi)) | (go_at_call 52; (with_reducible refine (pct_Norm.calls (⟨#[37, 101, 57, 37, 103]⟩ : ByteArray) t105 _ A8.out).mono ?_); rintro e w27 ⟨rfl, hb⟩; have n0_ := Aside0.mk (below_step (by repeat (first | (with_reducible first | exact HB.out | apply below_alloc | apply pw_below_drewN | apply below_drew1) | exact HB.out)) hb); clear HB; have HB := n0_; clear n0_; (try clear hb); (try clear hb2); (try clear hk); (try clear hi)))
            go_ret
            exact ⟨by first | rfl | (simp [errW_none, errW_some] <;> rfl) | (simp [*, errW_none, errW_some] <;> rfl), by repeat (first | (with_reducible first | exact HB.out | apply below_alloc | apply pw_below_drewN | apply below_drew1) | exact HB.out)⟩
        · rw [if_neg c7] at H
          have c7b0 : (t101.toList == ([32, 233] : List UInt8)) = false := beq_eq_false_iff_ne.mpr c7
          have c7b1 : (t101.toList != ([32, 233] : List UInt8)) = true := bne_iff_ne.mpr c7
          obtain rfl := Option.some.inj H
          go_enter Try.func41, Try.ntmps41
          go_wp2_with (first | ((with_reducible refine gate_callee (f := 48) rfl ?_); refine goesL_ (some 4) rfl rfl Try.func48 (by kernel_rfl) rfl #[.string (⟨#[37, 50, 48, 37, 101, 57]⟩ : ByteArray)] rfl (by (try simp only [List.map_toArray, List.map_cons, List.map_nil]); first | done | rfl | (simp only [List.length_drop, List.length_take]; rfl)) ?_; (with_reducible refine (pct_Decode.calls (⟨#[37, 50, 48, 37, 101, 57]⟩ : ByteArray) t101 true _ A1.out).mono ?_); rintro e w28 ⟨rfl, hb⟩; refine ⟨_, rfl, ?_⟩; have n0_ := Aside0.mk (below_step (by repeat (first | (with_reducible first | exact HB.out | apply below_alloc | apply pw_below_drewN | apply below_drew1) | exact HB.out)) hb); clear HB; have HB := n0_; clear n0_; (try clear hb); (try clear hb2); (try clear hk); (try clear hi)) | ((with_reducible refine gate_callee (f := 50) rfl ?_); refine goesL_ (some 7) rfl rfl Try.func50 (by kernel_rfl) rfl #[.string (⟨#[32, 47, 37, 52, 49]⟩ : ByteArray), .bool true] rfl (by (try simp only [List.map_toArray, List.map_cons, List.map_nil]); first | done | rfl | (simp only [List.length_drop, List.length_take]; rfl)) ?_; (with_reducible refine (pct_Encode.calls (⟨#[32, 47, 37, 52, 49]⟩ : ByteArray) true t103 _ A2.out).mono ?_); rintro e w29 ⟨rfl, hb⟩; refine ⟨_, rfl, ?_⟩; have n0_ := Aside0.mk (below_step (by repeat (first | (with_reducible first | exact HB.out | apply below_alloc | apply pw_below_drewN | apply below_drew1) | exact HB.out)) hb); clear HB; have HB := n0_; clear n0_; (try clear hb); (try clear hb2); (try clear hk); (try clear hi)) | (go_at_call 50; (with_reducible refine (pct_Encode.calls (⟨#[32, 47, 37, 52, 49]⟩ : ByteArray) false t104 _ A4.out).mono ?_); rintro e w30 ⟨rfl, hb⟩; have n0_ := Aside0.mk (below_step (by repeat (first | (with_reducible first | exact HB.out | apply below_alloc | apply pw_below_drewN | apply below_drew1) | exact HB.out)) hb); clear HB; have HB := n0_; clear n0_; (try clear hb); (try clear hb2); (try clear hk); (try clear hi)))
          go_ret
          exact ⟨by first | rfl | (simp [errW_none, errW_some] <;> rfl) | (simp [*, errW_none, errW_some] <;> rfl), by repeat (first | (with_reducible first | exact HB.out | apply below_alloc | apply pw_below_drewN | apply below_drew1) | exact HB.out)⟩
      · replace c6 := Bool.eq_false_iff.mpr c6
        subst c6
        have H1 : (some false) = some r := by rw [if_neg (show ¬ (false = true) by decide)] at H; exact H
        clear H
        have H := H1
        clear H1
        obtain rfl := Option.some.inj H
        go_enter Try.func41, Try.ntmps41
        go_wp2_with (first | ((with_reducible refine gate_callee (f := 48) rfl ?_); refine goesL_ (some 4) rfl rfl Try.func48 (by kernel_rfl) rfl #[.string (⟨#[37, 50, 48, 37, 101, 57]⟩ : ByteArray)] rfl (by (try simp only [List.map_toArray, List.map_cons, List.map_nil]); first | done | rfl | (simp only [List.length_drop, List.length_take]; rfl)) ?_; (with_reducible refine (pct_Decode.calls (⟨#[37, 50, 48, 37, 101, 57]⟩ : ByteArray) t101 false _ A1.out).mono ?_); rintro e w31 ⟨rfl, hb⟩; refine ⟨_, rfl, ?_⟩; have n0_ := Aside0.mk (below_step (by repeat (first | (with_reducible first | exact HB.out | apply below_alloc | apply pw_below_drewN | apply below_drew1) | exact HB.out)) hb); clear HB; have HB := n0_; clear n0_; (try clear hb); (try clear hb2); (try clear hk); (try clear hi)) | ((with_reducible refine gate_callee (f := 50) rfl ?_); refine goesL_ (some 7) rfl rfl Try.func50 (by kernel_rfl) rfl #[.string (⟨#[32, 47, 37, 52, 49]⟩ : ByteArray), .bool true] rfl (by (try simp only [List.map_toArray, List.map_cons, List.map_nil]); first | done | rfl | (simp only [List.length_drop, List.length_take]; rfl)) ?_; (with_reducible refine (pct_Encode.calls (⟨#[32, 47, 37, 52, 49]⟩ : ByteArray) true t103 _ A2.out).mono ?_); rintro e w32 ⟨rfl, hb⟩; refine ⟨_, rfl, ?_⟩; have n0_ := Aside0.mk (below_step (by repeat (first | (with_reducible first | exact HB.out | apply below_alloc | apply pw_below_drewN | apply below_drew1) | exact HB.out)) hb); clear HB; have HB := n0_; clear n0_; (try clear hb); (try clear hb2); (try clear hk); (try clear hi)) | (go_at_call 50; (with_reducible refine (pct_Encode.calls (⟨#[32, 47, 37, 52, 49]⟩ : ByteArray) false t104 _ A4.out).mono ?_); rintro e w33 ⟨rfl, hb⟩; have n0_ := Aside0.mk (below_step (by repeat (first | (with_reducible first | exact HB.out | apply below_alloc | apply pw_below_drewN | apply below_drew1) | exact HB.out)) hb); clear HB; have HB := n0_; clear n0_; (try clear hb); (try clear hb2); (try clear hk); (try clear hi)))
        go_ret
        exact ⟨by first | rfl | (simp [errW_none, errW_some] <;> rfl) | (simp [*, errW_none, errW_some] <;> rfl), by repeat (first | (with_reducible first | exact HB.out | apply below_alloc | apply pw_below_drewN | apply below_drew1) | exact HB.out)⟩
    · rw [if_neg c5] at H
      have c5b0 : (t104.toList == ([37, 50, 48, 37, 50, 70, 37, 50, 53, 52, 49] : List UInt8)) = false := beq_eq_false_iff_ne.mpr c5
      have c5b1 : (t104.toList != ([37, 50, 48, 37, 50, 70, 37, 50, 53, 52, 49] : List UInt8)) = true := bne_iff_ne.mpr c5
      obtain rfl := Option.some.inj H
      go_enter Try.func41, Try.ntmps41
      go_wp2_with (first | ((with_reducible refine gate_callee (f := 48) rfl ?_); refine goesL_ (some 4) rfl rfl Try.func48 (by kernel_rfl) rfl #[.string (⟨#[37, 50, 48, 37, 101, 57]⟩ : ByteArray)] rfl (by (try simp only [List.map_toArray, List.map_cons, List.map_nil]); first | done | rfl | (simp only [List.length_drop, List.length_take]; rfl)) ?_; (with_reducible refine (pct_Decode.calls (⟨#[37, 50, 48, 37, 101, 57]⟩ : ByteArray) t101 t102 _ A1.out).mono ?_); rintro e w34 ⟨rfl, hb⟩; refine ⟨_, rfl, ?_⟩; have n0_ := Aside0.mk (below_step (by repeat (first | (with_reducible first | exact HB.out | apply below_alloc | apply pw_below_drewN | apply below_drew1) | exact HB.out)) hb); clear HB; have HB := n0_; clear n0_; (try clear hb); (try clear hb2); (try clear hk); (try clear hi)) | ((with_reducible refine gate_callee (f := 50) rfl ?_); refine goesL_ (some 7) rfl rfl Try.func50 (by kernel_rfl) rfl #[.string (⟨#[32, 47, 37, 52, 49]⟩ : ByteArray), .bool true] rfl (by (try simp only [List.map_toArray, List.map_cons, List.map_nil]); first | done | rfl | (simp only [List.length_drop, List.length_take]; rfl)) ?_; (with_reducible refine (pct_Encode.calls (⟨#[32, 47, 37, 52, 49]⟩ : ByteArray) true t103 _ A2.out).mono ?_); rintro e w35 ⟨rfl, hb⟩; refine ⟨_, rfl, ?_⟩; have n0_ := Aside0.mk (below_step (by repeat (first | (with_reducible first | exact HB.out | apply below_alloc | apply pw_below_drewN | apply below_drew1) | exact HB.out)) hb); clear HB; have HB := n0_; clear n0_; (try clear hb); (try clear hb2); (try clear hk); (try clear hi)) | (go_at_call 50; (with_reducible refine (pct_Encode.calls (⟨#[32, 47, 37, 52, 49]⟩ : ByteArray) false t104 _ A4.out).mono ?_); rintro e w36 ⟨rfl, hb⟩; have n0_ := Aside0.mk (below_step (by repeat (first | (with_reducible first | exact HB.out | apply below_alloc | apply pw_below_drewN | apply below_drew1) | exact HB.out)) hb); clear HB; have HB := n0_; clear n0_; (try clear hb); (try clear hb2); (try clear hk); (try clear hi)))
      go_ret
      exact ⟨by first | rfl | (simp [errW_none, errW_some] <;> rfl) | (simp [*, errW_none, errW_some] <;> rfl), by repeat (first | (with_reducible first | exact HB.out | apply below_alloc | apply pw_below_drewN | apply below_drew1) | exact HB.out)⟩
  · rw [if_neg c3] at H
    have c3b0 : (t103.toList == ([37, 50, 48, 47, 37, 52, 49] : List UInt8)) = false := beq_eq_false_iff_ne.mpr c3
    have c3b1 : (t103.toList != ([37, 50, 48, 47, 37, 52, 49] : List UInt8)) = true := bne_iff_ne.mpr c3
    obtain rfl := Option.some.inj H
    go_enter Try.func41, Try.ntmps41
    go_wp2_with (first | ((with_reducible refine gate_callee (f := 48) rfl ?_); refine goesL_ (some 4) rfl rfl Try.func48 (by kernel_rfl) rfl #[.string (⟨#[37, 50, 48, 37, 101, 57]⟩ : ByteArray)] rfl (by (try simp only [List.map_toArray, List.map_cons, List.map_nil]); first | done | rfl | (simp only [List.length_drop, List.length_take]; rfl)) ?_; (with_reducible refine (pct_Decode.calls (⟨#[37, 50, 48, 37, 101, 57]⟩ : ByteArray) t101 t102 _ A1.out).mono ?_); rintro e w37 ⟨rfl, hb⟩; refine ⟨_, rfl, ?_⟩; have n0_ := Aside0.mk (below_step (by repeat (first | (with_reducible first | exact HB.out | apply below_alloc | apply pw_below_drewN | apply below_drew1) | exact HB.out)) hb); clear HB; have HB := n0_; clear n0_; (try clear hb); (try clear hb2); (try clear hk); (try clear hi)) | ((with_reducible refine gate_callee (f := 50) rfl ?_); refine goesL_ (some 7) rfl rfl Try.func50 (by kernel_rfl) rfl #[.string (⟨#[32, 47, 37, 52, 49]⟩ : ByteArray), .bool true] rfl (by (try simp only [List.map_toArray, List.map_cons, List.map_nil]); first | done | rfl | (simp only [List.length_drop, List.length_take]; rfl)) ?_; (with_reducible refine (pct_Encode.calls (⟨#[32, 47, 37, 52, 49]⟩ : ByteArray) true t103 _ A2.out).mono ?_); rintro e w38 ⟨rfl, hb⟩; refine ⟨_, rfl, ?_⟩; have n0_ := Aside0.mk (below_step (by repeat (first | (with_reducible first | exact HB.out | apply below_alloc | apply pw_below_drewN | apply below_drew1) | exact HB.out)) hb); clear HB; have HB := n0_; clear n0_; (try clear hb); (try clear hb2); (try clear hk); (try clear hi)))
    go_ret
    exact ⟨by first | rfl | (simp [errW_none, errW_some] <;> rfl) | (simp [*, errW_none, errW_some] <;> rfl), by repeat (first | (with_reducible first | exact HB.out | apply below_alloc | apply pw_below_drewN | apply below_drew1) | exact HB.out)⟩

/-! ### pct_Digit: function 42 -/
def pct_Digit.f (a0 : Int) : Option (Int × Bool) := if 0 ≤ a0 ∧ a0 < 256 then some (((digitU a0.toNat).1 : Nat), (digitU a0.toNat).2) else none
theorem pct_Digit.calls (a0 : Int) (r1 : Int) (r2 : Bool) (w : World) (h : pct_Digit.f a0 = some (r1, r2)) :
    Calls Try.prog 42 #[.int .u8 a0] w fun e w' => e = .returned (.tuple #[.int .i64 r1, .bool r2]) ∧ Below w.heap.size w w' := by
  unfold pct_Digit.f at h
  split at h
  · rename_i hh
    injection h with h
    injection h with h1 h2
    subst h1; subst h2
    have hk := digit_in a0.toNat (by omega) w
    rw [show ((a0.toNat : Nat) : Int) = a0 from by omega] at hk
    exact hk
  · cases h

/-! ### phalaroperef03_Digit: function 43 -/
mutual
def phalaroperef03_Digit.j0 : Nat → Int → Bool → Option (Int × Bool)
  | 0, _, _ => none
  | k + 1, x0, x9 => if x9 = true then (some (wrap64 ((wrap64 (x0)) - 48), true)) else (if x0 ≥ 65 then (phalaroperef03_Digit.j1 k x0 (decide (x0 ≤ 70))) else (phalaroperef03_Digit.j1 k x0 false))
def phalaroperef03_Digit.j1 : Nat → Int → Bool → Option (Int × Bool)
  | 0, _, _ => none
  | k + 1, x0, x18 => if x18 = true then (some (wrap64 ((wrap64 (x0)) - 55), true)) else (if x0 ≥ 97 then (if x0 ≤ 102 then (some (wrap64 ((wrap64 (x0)) - 87), true)) else (some (0, false))) else (some (0, false)))
end
def phalaroperef03_Digit.f (k : Nat) (a0 : Int) : Option (Int × Bool) := if a0 ≥ 48 then (phalaroperef03_Digit.j0 k a0 (decide (a0 ≤ 57))) else (phalaroperef03_Digit.j0 k a0 false)
theorem phalaroperef03_Digit.mono_l : ∀ k, (∀ y0 y1, LeO (phalaroperef03_Digit.j0 k y0 y1) (phalaroperef03_Digit.j0 (k + 1) y0 y1)) ∧ (∀ y0 y1, LeO (phalaroperef03_Digit.j1 k y0 y1) (phalaroperef03_Digit.j1 (k + 1) y0 y1))
  | 0 => ⟨fun _ _ r h => by simp [phalaroperef03_Digit.j0] at h, fun _ _ r h => by simp [phalaroperef03_Digit.j1] at h⟩
  | k + 1 => by
    obtain ⟨ih0, ih1⟩ := phalaroperef03_Digit.mono_l k
    refine ⟨?_, ?_⟩
    · intro y0 y1
      unfold phalaroperef03_Digit.j0
      repeat' first
      | (with_reducible exact ih0 _ _)
      | (with_reducible exact ih1 _ _)
      | (with_reducible exact LeO.refl _)
      | (with_reducible exact LeO.none _)
      | (with_reducible refine LeO.ite ?_ ?_)
      | (with_reducible refine LeO.bind ?_ (fun _ => ?_))
      | exact ih0 _ _
      | exact ih1 _ _
      | exact LeO.none _
      | refine LeO.ite ?_ ?_
      | refine LeO.bind ?_ (fun _ => ?_)
    · intro y0 y1
      unfold phalaroperef03_Digit.j1
      repeat' first
      | (with_reducible exact ih0 _ _)
      | (with_reducible exact ih1 _ _)
      | (with_reducible exact LeO.refl _)
      | (with_reducible exact LeO.none _)
      | (with_reducible refine LeO.ite ?_ ?_)
      | (with_reducible refine LeO.bind ?_ (fun _ => ?_))
      | exact ih0 _ _
      | exact ih1 _ _
      | exact LeO.none _
      | refine LeO.ite ?_ ?_
      | refine LeO.bind ?_ (fun _ => ?_)
theorem phalaroperef03_Digit.mono : ∀ a0 k, LeO (phalaroperef03_Digit.f k a0) (phalaroperef03_Digit.f (k + 1) a0) := by
  intro a0 k
  obtain ⟨ih0, ih1⟩ := phalaroperef03_Digit.mono_l k
  unfold phalaroperef03_Digit.f
  repeat' first
      | (with_reducible exact ih0 _ _)
      | (with_reducible exact ih1 _ _)
      | (with_reducible exact LeO.refl _)
      | (with_reducible exact LeO.none _)
      | (with_reducible refine LeO.ite ?_ ?_)
      | (with_reducible refine LeO.bind ?_ (fun _ => ?_))
      | exact ih0 _ _
      | exact ih1 _ _
      | exact LeO.none _
      | refine LeO.ite ?_ ?_
      | refine LeO.bind ?_ (fun _ => ?_)
set_option maxHeartbeats 8000000 in
set_option maxRecDepth 100000 in
theorem phalaroperef03_Digit.calls (k : Nat) (a0 : Int) (r1 : Int) (r2 : Bool) (w : World) (h : phalaroperef03_Digit.f k a0 = some (r1, r2)) :
    Calls Try.prog 43 #[.int .u8 a0] w fun e w' => e = .returned (.tuple #[.int .i64 r1, .bool r2]) ∧ Drawn0 w w' := by
  have H : (if a0 ≥ 48 then (phalaroperef03_Digit.j0 k a0 (decide (a0 ≤ 57))) else (phalaroperef03_Digit.j0 k a0 false)) = some (r1, r2) := h
  clear h
  have HC2 := Aside0.mk H
  clear H
  go_enter Try.func43, Try.ntmps43
  go_upto_region 1 with (fail)
  go_cut [9] (fun v9 wc => ∃ (kq : Nat) (x9_1 : Bool), v9 = .bool x9_1 ∧ Aside0 (phalaroperef03_Digit.j0 kq a0 x9_1 = some (r1, r2)) ∧ Aside0 (kq ≤ k) ∧ Drawn0 w wc)
  case first =>
    have H := HC2.out
    clear HC2
    by_cases c3 : a0 ≥ 48
    · rw [if_pos c3] at H
      have c3b0 : decide (48 ≤ a0) = true := decide_eq_true c3
      clear c3
      (first | rw [c3b0] | (simp only [i64_w, i32_w]; rw [c3b0]) | skip)
      have H' := Aside0.mk H
      clear H
      go_wp2
      go_meet
      case rel => exact ⟨_, (decide (a0 ≤ 57)), (by first | rfl | (simp; done) | (simp [*]; done)), H', ⟨by first | omega | exact Nat.le_refl _⟩, by repeat (first | exact Drawn0.refl _ | apply Drawn0.step)⟩
    · rw [if_neg c3] at H
      have c3b0 : decide (48 ≤ a0) = false := decide_eq_false c3
      clear c3
      (first | rw [c3b0] | (simp only [i64_w, i32_w]; rw [c3b0]) | skip)
      have H' := Aside0.mk H
      clear H
      go_wp2
      go_meet
      case rel => exact ⟨_, (false), (by first | rfl | (simp; done) | (simp [*]; done)), H', ⟨by first | omega | exact Nat.le_refl _⟩, by repeat (first | exact Drawn0.refl _ | apply Drawn0.step)⟩
  case rest =>
    clear HC2
    try clear p2
    try clear c3
    try clear c3b0
    obtain ⟨kq, x9_1, rfl, HA, HJ1, ⟨mc1, rfl⟩⟩ := hcut
    cases kq with
    | zero => exact absurd HA.out (by simp [phalaroperef03_Digit.j0])
    | succ kj1 =>
      have H := HA.out
      clear HA
      simp only [phalaroperef03_Digit.j0] at H
      by_cases c4 : x9_1 = true
      · subst c4
        have H1 : (some (wrap64 ((wrap64 (a0)) - 48), true)) = some (r1, r2) := by rw [if_pos rfl] at H; exact H
        clear H
        have H := H1
        clear H1
        simp only [Option.some.injEq, Prod.mk.injEq] at H
        obtain ⟨rfl, rfl⟩ := H
        go_wp2
        go_ret2
        exact ⟨by first | rfl | (simp; done) | (simp [*]; done), by repeat (first | exact Drawn0.refl _ | apply Drawn0.step)⟩
      · replace c4 := Bool.eq_false_iff.mpr c4
        subst c4
        have H1 : (if a0 ≥ 65 then (phalaroperef03_Digit.j1 kj1 a0 (decide (a0 ≤ 70))) else (phalaroperef03_Digit.j1 kj1 a0 false)) = some (r1, r2) := by rw [if_neg (show ¬ (false = true) by decide)] at H; exact H
        clear H
        have H := H1
        clear H1
        have HC5 := Aside0.mk H
        clear H
        go_upto_region 3 with (fail)
        go_cut [18] (fun v18 wc => ∃ (kq : Nat) (x18_4 : Bool), v18 = .bool x18_4 ∧ Aside0 (phalaroperef03_Digit.j1 kq a0 x18_4 = some (r1, r2)) ∧ Aside0 (kq ≤ kj1) ∧ Drawn0 w wc)
        case first =>
          have H := HC5.out
          clear HC5
          by_cases c6 : a0 ≥ 65
          · rw [if_pos c6] at H
            have c6b0 : decide (65 ≤ a0) = true := decide_eq_true c6
            clear c6
            (first | rw [c6b0] | (simp only [i64_w, i32_w]; rw [c6b0]) | skip)
            have H' := Aside0.mk H
            clear H
            go_wp2
            go_meet
            case rel => exact ⟨_, (decide (a0 ≤ 70)), (by first | rfl | (simp; done) | (simp [*]; done)), H', ⟨by have := HJ1.out; first | omega | exact Nat.le_refl _⟩, by repeat (first | exact Drawn0.refl _ | apply Drawn0.step)⟩
          · rw [if_neg c6] at H
            have c6b0 : decide (65 ≤ a0) = false := decide_eq_false c6
            clear c6
            (first | rw [c6b0] | (simp only [i64_w, i32_w]; rw [c6b0]) | skip)
            have H' := Aside0.mk H
            clear H
            go_wp2
            go_meet
            case rel => exact ⟨_, (false), (by first | rfl | (simp; done) | (simp [*]; done)), H', ⟨by have := HJ1.out; first | omega | exact Nat.le_refl _⟩, by repeat (first | exact Drawn0.refl _ | apply Drawn0.step)⟩
        case rest =>
          clear HC5
          try clear c1
          try clear p2
          try clear c3
          try clear c3b0
          try clear c4
          try clear c6
          try clear c6b0
          try clear p6
          try clear p2
          obtain ⟨kq, x18_4, rfl, HA, HJ4, ⟨mc4, rfl⟩⟩ := hcut
          cases kq with
          | zero => exact absurd HA.out (by simp [phalaroperef03_Digit.j1])
          | succ kj4 =>
            have H := HA.out
            clear HA
            simp only [phalaroperef03_Digit.j1] at H
            by_cases c7 : x18_4 = true
            · subst c7
              have H1 : (some (wrap64 ((wrap64 (a0)) - 55), true)) = some (r1, r2) := by rw [if_pos rfl] at H; exact H
              clear H
              have H := H1
              clear H1
              simp only [Option.some.injEq, Prod.mk.injEq] at H
              obtain ⟨rfl, rfl⟩ := H
              go_wp2
              go_ret2
              exact ⟨by first | rfl | (simp; done) | (simp [*]; done), by repeat (first | exact Drawn0.refl _ | apply Drawn0.step)⟩
            · replace c7 := Bool.eq_false_iff.mpr c7
              subst c7
              have H1 : (if a0 ≥ 97 then (if a0 ≤ 102 then (some (wrap64 ((wrap64 (a0)) - 87), true)) else (some (0, false))) else (some (0, false))) = some (r1, r2) := by rw [if_neg (show ¬ (false = true) by decide)] at H; exact H
              clear H
              have H := H1
              clear H1
              by_cases c8 : a0 ≥ 97
              · rw [if_pos c8] at H
                have c8b0 : decide (97 ≤ a0) = true := decide_eq_true c8
                clear c8
                by_cases c9 : a0 ≤ 102
                · rw [if_pos c9] at H
                  have c9b0 : decide (a0 ≤ 102) = true := decide_eq_true c9
                  clear c9
                  simp only [Option.some.injEq, Prod.mk.injEq] at H
                  obtain ⟨rfl, rfl⟩ := H
                  go_wp2
                  go_ret2
                  exact ⟨by first | rfl | (simp; done) | (simp [*]; done), by repeat (first | exact Drawn0.refl _ | apply Drawn0.step)⟩
                · rw [if_neg c9] at H
                  have c9b0 : decide (a0 ≤ 102) = false := decide_eq_false c9
                  clear c9
                  simp only [Option.some.injEq, Prod.mk.injEq] at H
                  obtain ⟨rfl, rfl⟩ := H
                  go_wp2
                  go_ret2
                  exact ⟨by first | rfl | (simp; done) | (simp [*]; done), by repeat (first | exact Drawn0.refl _ | apply Drawn0.step)⟩
              · rw [if_neg c8] at H
                have c8b0 : decide (97 ≤ a0) = false := decide_eq_false c8
                clear c8
                simp only [Option.some.injEq, Prod.mk.injEq] at H
                obtain ⟨rfl, rfl⟩ := H
                go_wp2
                go_ret2
                exact ⟨by first | rfl | (simp; done) | (simp [*]; done), by repeat (first | exact Drawn0.refl _ | apply Drawn0.step)⟩

/-! ### pct_One: function 44 -/
def pct_One.f (a0 : Int) : Option (ByteArray) := if 0 ≤ a0 ∧ a0 < 256 then some (bytesN (oneN a0.toNat)) else none
theorem pct_One.calls (a0 : Int) (r : ByteArray) (w : World) (h : pct_One.f a0 = some r) :
    Calls Try.prog 44 #[.int .u8 a0] w fun e w' => e = .returned (.string r) ∧ Below w.heap.size w w' := by
  unfold pct_One.f at h
  split at h
  · rename_i hh
    injection h with h
    subst h
    have hk := one_in a0.toNat (by omega) w
    rw [show ((a0.toNat : Nat) : Int) = a0 from by omega] at hk
    exact hk
  · cases h

/-! ### phalaroperef03_One: function 45 -/
def phalaroperef03_One.f (a0 : Int) : Option (ByteArray) := if 0 ≤ a0 ∧ a0 < 256 then some (bytesN (oneN a0.toNat)) else none
theorem phalaroperef03_One.calls (a0 : Int) (r : ByteArray) (w : World) (h : phalaroperef03_One.f a0 = some r) :
    Calls Try.prog 45 #[.int .u8 a0] w fun e w' => e = .returned (.string r) ∧ Below w.heap.size w w' := by
  unfold phalaroperef03_One.f at h
  split at h
  · rename_i hh
    injection h with h
    subst h
    have hk := oneref_in a0.toNat (by omega) w
    rw [show ((a0.toNat : Nat) : Int) = a0 from by omega] at hk
    exact hk
  · cases h

/-! ### phalaroperef02_Digit: function 28 -/
def phalaroperef02_Digit.f (a0 : Int) : Option (Bool) := if a0 ≥ 48 then (some (decide (a0 ≤ 57))) else (some false)
set_option maxHeartbeats 8000000 in
set_option maxRecDepth 100000 in
theorem phalaroperef02_Digit.calls (a0 : Int) (r : Bool) (w : World) (h : phalaroperef02_Digit.f a0 = some r) :
    Calls Try.prog 28 #[.int .u8 a0] w fun e w' => e = .returned (.bool r) ∧ Drawn0 w w' := by
  have H : (if a0 ≥ 48 then (some (decide (a0 ≤ 57))) else (some false)) = some r := h
  clear h
  by_cases c2 : a0 ≥ 48
  · rw [if_pos c2] at H
    have c2b0 : decide (48 ≤ a0) = true := decide_eq_true c2
    clear c2
    obtain rfl := Option.some.inj H
    go_enter Try.func28, Try.ntmps28
    go_wp2
    go_ret
    exact ⟨by first | rfl | (simp; done) | (simp [*]; done), by repeat (first | exact Drawn0.refl _ | apply Drawn0.step)⟩
  · rw [if_neg c2] at H
    have c2b0 : decide (48 ≤ a0) = false := decide_eq_false c2
    clear c2
    obtain rfl := Option.some.inj H
    go_enter Try.func28, Try.ntmps28
    go_wp2
    go_ret
    exact ⟨by first | rfl | (simp; done) | (simp [*]; done), by repeat (first | exact Drawn0.refl _ | apply Drawn0.step)⟩

/-! ### phalaroperef02_Hex: function 32 -/
def phalaroperef02_Hex.f (a0 : Int) : Option (Bool) := (phalaroperef02_Digit.f a0).bind fun t108 => (if t108 = true then (some true) else (if a0 ≥ 65 then (if a0 ≤ 70 then (some true) else (if a0 ≥ 97 then (some (decide (a0 ≤ 102))) else (some false))) else (if a0 ≥ 97 then (some (decide (a0 ≤ 102))) else (some false))))
set_option maxHeartbeats 8000000 in
set_option maxRecDepth 100000 in
theorem phalaroperef02_Hex.calls (a0 : Int) (r : Bool) (w : World) (h : phalaroperef02_Hex.f a0 = some r) :
    Calls Try.prog 32 #[.int .u8 a0] w fun e w' => e = .returned (.bool r) ∧ Drawn0 w w' := by
  have H : ((phalaroperef02_Digit.f a0).bind fun t108 => (if t108 = true then (some true) else (if a0 ≥ 65 then (if a0 ≤ 70 then (some true) else (if a0 ≥ 97 then (some (decide (a0 ≤ 102))) else (some false))) else (if a0 ≥ 97 then (some (decide (a0 ≤ 102))) else (some false))))) = some r := h
  clear h
  replace H := Option.bind_eq_some_iff.mp H
  obtain ⟨t108, A20, H⟩ := H
  replace H : (if t108 = true then (some true) else (if a0 ≥ 65 then (if a0 ≤ 70 then (some true) else (if a0 ≥ 97 then (some (decide (a0 ≤ 102))) else (some false))) else (if a0 ≥ 97 then (some (decide (a0 ≤ 102))) else (some false)))) = some r := H
  have A2 := Aside0.mk A20
  clear A20
  by_cases c3 : t108 = true
  · subst c3
    have H1 : (some true) = some r := by rw [if_pos rfl] at H; exact H
    clear H
    have H := H1
    clear H1
    obtain rfl := Option.some.inj H
    go_enter Try.func32, Try.ntmps32
    go_wp2_with (first | ((with_reducible refine gate_callee (f := 28) rfl ?_); refine goesL_ (some 4) rfl rfl Try.func28 (by kernel_rfl) rfl #[.int .u8 a0] rfl (by (try simp only [List.map_toArray, List.map_cons, List.map_nil]); first | done | rfl | (simp only [List.length_drop, List.length_take]; rfl)) ?_; (with_reducible refine (phalaroperef02_Digit.calls a0 true _ A2.out).mono ?_); rintro e w' ⟨rfl, ⟨nd, rfl⟩⟩; refine ⟨_, rfl, ?_⟩))
    go_ret
    exact ⟨by first | rfl | (simp; done) | (simp [*]; done), by repeat (first | exact Drawn0.refl _ | apply Drawn0.step)⟩
  · replace c3 := Bool.eq_false_iff.mpr c3
    subst c3
    have H1 : (if a0 ≥ 65 then (if a0 ≤ 70 then (some true) else (if a0 ≥ 97 then (some (decide (a0 ≤ 102))) else (some false))) else (if a0 ≥ 97 then (some (decide (a0 ≤ 102))) else (some false))) = some r := by rw [if_neg (show ¬ (false = true) by decide)] at H; exact H
    clear H
    have H := H1
    clear H1
    by_cases c4 : a0 ≥ 65
    · rw [if_pos c4] at H
      have c4b0 : decide (65 ≤ a0) = true := decide_eq_true c4
      clear c4
      by_cases c5 : a0 ≤ 70
      · rw [if_pos c5] at H
        have c5b0 : decide (a0 ≤ 70) = true := decide_eq_true c5
        clear c5
        obtain rfl := Option.some.inj H
        go_enter Try.func32, Try.ntmps32
        go_wp2_with (first | ((with_reducible refine gate_callee (f := 28) rfl ?_); refine goesL_ (some 4) rfl rfl Try.func28 (by kernel_rfl) rfl #[.int .u8 a0] rfl (by (try simp only [List.map_toArray, List.map_cons, List.map_nil]); first | done | rfl | (simp only [List.length_drop, List.length_take]; rfl)) ?_; (with_reducible refine (phalaroperef02_Digit.calls a0 false _ A2.out).mono ?_); rintro e w' ⟨rfl, ⟨nd, rfl⟩⟩; refine ⟨_, rfl, ?_⟩))
        go_ret
        exact ⟨by first | rfl | (simp; done) | (simp [*]; done), by repeat (first | exact Drawn0.refl _ | apply Drawn0.step)⟩
      · rw [if_neg c5] at H
        have c5b0 : decide (a0 ≤ 70) = false := decide_eq_false c5
        clear c5
        by_cases c6 : a0 ≥ 97
        · rw [if_pos c6] at H
          have c6b0 : decide (97 ≤ a0) = true := decide_eq_true c6
          clear c6
          obtain rfl := Option.some.inj H
          go_enter Try.func32, Try.ntmps32
          go_wp2_with (first | ((with_reducible refine gate_callee (f := 28) rfl ?_); refine goesL_ (some 4) rfl rfl Try.func28 (by kernel_rfl) rfl #[.int .u8 a0] rfl (by (try simp only [List.map_toArray, List.map_cons, List.map_nil]); first | done | rfl | (simp only [List.length_drop, List.length_take]; rfl)) ?_; (with_reducible refine (phalaroperef02_Digit.calls a0 false _ A2.out).mono ?_); rintro e w' ⟨rfl, ⟨nd, rfl⟩⟩; refine ⟨_, rfl, ?_⟩))
          go_ret
          exact ⟨by first | rfl | (simp; done) | (simp [*]; done), by repeat (first | exact Drawn0.refl _ | apply Drawn0.step)⟩
        · rw [if_neg c6] at H
          have c6b0 : decide (97 ≤ a0) = false := decide_eq_false c6
          clear c6
          obtain rfl := Option.some.inj H
          go_enter Try.func32, Try.ntmps32
          go_wp2_with (first | ((with_reducible refine gate_callee (f := 28) rfl ?_); refine goesL_ (some 4) rfl rfl Try.func28 (by kernel_rfl) rfl #[.int .u8 a0] rfl (by (try simp only [List.map_toArray, List.map_cons, List.map_nil]); first | done | rfl | (simp only [List.length_drop, List.length_take]; rfl)) ?_; (with_reducible refine (phalaroperef02_Digit.calls a0 false _ A2.out).mono ?_); rintro e w' ⟨rfl, ⟨nd, rfl⟩⟩; refine ⟨_, rfl, ?_⟩))
          go_ret
          exact ⟨by first | rfl | (simp; done) | (simp [*]; done), by repeat (first | exact Drawn0.refl _ | apply Drawn0.step)⟩
    · rw [if_neg c4] at H
      have c4b0 : decide (65 ≤ a0) = false := decide_eq_false c4
      clear c4
      by_cases c7 : a0 ≥ 97
      · rw [if_pos c7] at H
        have c7b0 : decide (97 ≤ a0) = true := decide_eq_true c7
        clear c7
        obtain rfl := Option.some.inj H
        go_enter Try.func32, Try.ntmps32
        go_wp2_with (first | ((with_reducible refine gate_callee (f := 28) rfl ?_); refine goesL_ (some 4) rfl rfl Try.func28 (by kernel_rfl) rfl #[.int .u8 a0] rfl (by (try simp only [List.map_toArray, List.map_cons, List.map_nil]); first | done | rfl | (simp only [List.length_drop, List.length_take]; rfl)) ?_; (with_reducible refine (phalaroperef02_Digit.calls a0 false _ A2.out).mono ?_); rintro e w' ⟨rfl, ⟨nd, rfl⟩⟩; refine ⟨_, rfl, ?_⟩))
        go_ret
        exact ⟨by first | rfl | (simp; done) | (simp [*]; done), by repeat (first | exact Drawn0.refl _ | apply Drawn0.step)⟩
      · rw [if_neg c7] at H
        have c7b0 : decide (97 ≤ a0) = false := decide_eq_false c7
        clear c7
        obtain rfl := Option.some.inj H
        go_enter Try.func32, Try.ntmps32
        go_wp2_with (first | ((with_reducible refine gate_callee (f := 28) rfl ?_); refine goesL_ (some 4) rfl rfl Try.func28 (by kernel_rfl) rfl #[.int .u8 a0] rfl (by (try simp only [List.map_toArray, List.map_cons, List.map_nil]); first | done | rfl | (simp only [List.length_drop, List.length_take]; rfl)) ?_; (with_reducible refine (phalaroperef02_Digit.calls a0 false _ A2.out).mono ?_); rintro e w' ⟨rfl, ⟨nd, rfl⟩⟩; refine ⟨_, rfl, ?_⟩))
        go_ret
        exact ⟨by first | rfl | (simp; done) | (simp [*]; done), by repeat (first | exact Drawn0.refl _ | apply Drawn0.step)⟩

/-! ### phalaroperef03_Triplet: function 47 -/
def phalaroperef03_Triplet.f (a0 : ByteArray) : Option (Bool) := if (a0.size : Int) ≥ 3 then (if 0 < (a0.size : Int) then (if (bt a0 0) = 37 then (if 1 < (a0.size : Int) then ((phalaroperef02_Hex.f (bt a0 1)).bind fun t109 => (if t109 = true then (if 2 < (a0.size : Int) then ((phalaroperef02_Hex.f (bt a0 2)).bind fun t110 => (some t110)) else (none)) else (some false))) else (none)) else (some false)) else (none)) else (some false)
set_option maxHeartbeats 8000000 in
set_option maxRecDepth 100000 in
theorem phalaroperef03_Triplet.calls (a0 : ByteArray) (r : Bool) (w : World) (h : phalaroperef03_Triplet.f a0 = some r) :
    Calls Try.prog 47 #[.string a0] w fun e w' => e = .returned (.bool r) ∧ Drawn0 w w' := by
  have H : (if (a0.size : Int) ≥ 3 then (if 0 < (a0.size : Int) then (if (bt a0 0) = 37 then (if 1 < (a0.size : Int) then ((phalaroperef02_Hex.f (bt a0 1)).bind fun t109 => (if t109 = true then (if 2 < (a0.size : Int) then ((phalaroperef02_Hex.f (bt a0 2)).bind fun t110 => (some t110)) else (none)) else (some false))) else (none)) else (some false)) else (none)) else (some false)) = some r := h
  clear h
  by_cases c2 : (a0.size : Int) ≥ 3
  · rw [if_pos c2] at H
    have c2b0 : decide (3 ≤ (a0.size : Int)) = true := decide_eq_true c2
    have c2b1 : decide (3 ≤ a0.size) = true := decide_eq_true (by omega)
    clear c2
    by_cases c3 : 0 < (a0.size : Int)
    · rw [if_pos c3] at H
      have c3b0 : decide (0 < (a0.size : Int)) = true := decide_eq_true c3
      have c3b1 : decide (0 < a0.size) = true := decide_eq_true (by omega)
      clear c3
      by_cases c5 : (bt a0 0) = 37
      · rw [if_pos c5] at H
        have c5b0 : ((bt a0 0) == 37) = true := beq_iff_eq.mpr c5
        have c5b1 : ((bt a0 0) != 37) = false := bne_eq_false_iff_eq.mpr c5
        clear c5
        by_cases c6 : 1 < (a0.size : Int)
        · rw [if_pos c6] at H
          have c6b0 : decide (1 < (a0.size : Int)) = true := decide_eq_true c6
          have c6b1 : decide (1 < a0.size) = true := decide_eq_true (by omega)
          clear c6
          replace H := Option.bind_eq_some_iff.mp H
          obtain ⟨t109, A80, H⟩ := H
          replace H : (if t109 = true then (if 2 < (a0.size : Int) then ((phalaroperef02_Hex.f (bt a0 2)).bind fun t110 => (some t110)) else (none)) else (some false)) = some r := H
          have A8 := Aside0.mk A80
          clear A80
          by_cases c9 : t109 = true
          · subst c9
            have H1 : (if 2 < (a0.size : Int) then ((phalaroperef02_Hex.f (bt a0 2)).bind fun t110 => (some t110)) else (none)) = some r := by rw [if_pos rfl] at H; exact H
            clear H
            have H := H1
            clear H1
            by_cases c10 : 2 < (a0.size : Int)
            · rw [if_pos c10] at H
              have c10b0 : decide (2 < (a0.size : Int)) = true := decide_eq_true c10
              have c10b1 : decide (2 < a0.size) = true := decide_eq_true (by omega)
              clear c10
              replace H := Option.bind_eq_some_iff.mp H
              obtain ⟨t110, A120, H⟩ := H
              replace H : (some t110) = some r := H
              have A12 := Aside0.mk A120
              clear A120
              obtain rfl := Option.some.inj H
              have p4 : 0 ≤ (0 : Int) := (by omega)
              have q4 : 0 < a0.size := (by have : (0 : Int) < (a0.size : Int) := of_decide_eq_true (by first | (with_reducible assumption) | assumption); omega)
              have hx4 : ∀ h : 0 < a0.size, ((a0[0]'h).toNat : Int) = bt a0 0 := bt_at a0 0
              clear p4
              have qi4 : (0 < (a0.size : Int)) = True := eq_true (of_decide_eq_true (by first | (with_reducible assumption) | assumption))
              replace q4 := eq_true q4
              have p7 : 0 ≤ (1 : Int) := (by omega)
              have q7 : 1 < a0.size := (by have : (1 : Int) < (a0.size : Int) := of_decide_eq_true (by first | (with_reducible assumption) | assumption); omega)
              have hx7 : ∀ h : 1 < a0.size, ((a0[1]'h).toNat : Int) = bt a0 1 := bt_at a0 1
              clear p7
              have qi7 : (1 < (a0.size : Int)) = True := eq_true (of_decide_eq_true (by first | (with_reducible assumption) | assumption))
              replace q7 := eq_true q7
              go_enter Try.func47, Try.ntmps47
              go_wp2_with (first | (go_at_call 32; (with_reducible refine (phalaroperef02_Hex.calls (bt a0 1) true _ A8.out).mono ?_); rintro e w' ⟨rfl, ⟨nd, rfl⟩⟩; have p11 : 0 ≤ (2 : Int) := (by omega); have q11 : 2 < a0.size := (by have : (2 : Int) < (a0.size : Int) := of_decide_eq_true (by first | (with_reducible assumption) | assumption); omega); have hx11 : ∀ h : 2 < a0.size, ((a0[2]'h).toNat : Int) = bt a0 2 := bt_at a0 2; clear p11; have qi11 : (2 < (a0.size : Int)) = True := eq_true (of_decide_eq_true (by first | (with_reducible assumption) | assumption)); replace q11 := eq_true q11) | (go_at_call 32; (with_reducible refine (phalaroperef02_Hex.calls (bt a0 2) t110 _ A12.out).mono ?_); rintro e w' ⟨rfl, ⟨nd, rfl⟩⟩))
              go_ret
              exact ⟨by first | rfl | (simp; done) | (simp [*]; done), by repeat (first | exact Drawn0.refl _ | apply Drawn0.step)⟩
            · rw [if_neg c10] at H
              exact absurd H (by simp)
          · replace c9 := Bool.eq_false_iff.mpr c9
            subst c9
            have H1 : (some false) = some r := by rw [if_neg (show ¬ (false = true) by decide)] at H; exact H
            clear H
            have H := H1
            clear H1
            obtain rfl := Option.some.inj H
            have p4 : 0 ≤ (0 : Int) := (by omega)
            have q4 : 0 < a0.size := (by have : (0 : Int) < (a0.size : Int) := of_decide_eq_true (by first | (with_reducible assumption) | assumption); omega)
            have hx4 : ∀ h : 0 < a0.size, ((a0[0]'h).toNat : Int) = bt a0 0 := bt_at a0 0
            clear p4
            have qi4 : (0 < (a0.size : Int)) = True := eq_true (of_decide_eq_true (by first | (with_reducible assumption) | assumption))
            replace q4 := eq_true q4
            have p7 : 0 ≤ (1 : Int) := (by omega)
            have q7 : 1 < a0.size := (by have : (1 : Int) < (a0.size : Int) := of_decide_eq_true (by first | (with_reducible assumption) | assumption); omega)
            have hx7 : ∀ h : 1 < a0.size, ((a0[1]'h).toNat : Int) = bt a0 1 := bt_at a0 1
            clear p7
            have qi7 : (1 < (a0.size : Int)) = True := eq_true (of_decide_eq_true (by first | (with_reducible assumption) | assumption))
            replace q7 := eq_true q7
            go_enter Try.func47, Try.ntmps47
            go_wp2_with (first | (go_at_call 32; (with_reducible refine (phalaroperef02_Hex.calls (bt a0 1) false _ A8.out).mono ?_); rintro e w' ⟨rfl, ⟨nd, rfl⟩⟩))
            go_ret
            exact ⟨by first | rfl | (simp; done) | (simp [*]; done), by repeat (first | exact Drawn0.refl _ | apply Drawn0.step)⟩
        · rw [if_neg c6] at H
          exact absurd H (by simp)
      · rw [if_neg c5] at H
        have c5b0 : ((bt a0 0) == 37) = false := beq_eq_false_iff_ne.mpr c5
        have c5b1 : ((bt a0 0) != 37) = true := bne_iff_ne.mpr c5
        obtain rfl := Option.some.inj H
        have p4 : 0 ≤ (0 : Int) := (by omega)
        have q4 : 0 < a0.size := (by have : (0 : Int) < (a0.size : Int) := of_decide_eq_true (by first | (with_reducible assumption) | assumption); omega)
        have hx4 : ∀ h : 0 < a0.size, ((a0[0]'h).toNat : Int) = bt a0 0 := bt_at a0 0
        clear p4
        have qi4 : (0 < (a0.size : Int)) = True := eq_true (of_decide_eq_true (by first | (with_reducible assumption) | assumption))
        replace q4 := eq_true q4
        go_enter Try.func47, Try.ntmps47
        go_wp2
        go_ret
        exact ⟨by first | rfl | (simp; done) | (simp [*]; done), by repeat (first | exact Drawn0.refl _ | apply Drawn0.step)⟩
    · rw [if_neg c3] at H
      exact absurd H (by simp)
  · rw [if_neg c2] at H
    have c2b0 : decide (3 ≤ (a0.size : Int)) = false := decide_eq_false c2
    have c2b1 : decide (3 ≤ a0.size) = false := decide_eq_false (by omega)
    clear c2
    obtain rfl := Option.some.inj H
    go_enter Try.func47, Try.ntmps47
    go_wp2
    go_ret
    exact ⟨by first | rfl | (simp; done) | (simp [*]; done), by repeat (first | exact Drawn0.refl _ | apply Drawn0.step)⟩

/-! ### phalaropelaw03_PctOne: function 9 -/
def phalaropelaw03_PctOne.f (k : Nat) (a0 : Int) (a1 : ByteArray) : Option (Bool) := (phalaropelaw03_awake.f).bind fun t111 => (if (a1.size : Int) > 2000 then (some t111) else ((pct_Digit.f a0).bind fun bt112 => ((phalaroperef03_Digit.f k a0).bind fun bt114 => (if t111 = true then (if bt112.1 = bt114.1 then (if (bt112.2 == bt114.2) = true then ((pct_One.f a0).bind fun t116 => ((phalaroperef03_One.f a0).bind fun t117 => (if t116.toList = t117.toList then ((pct_Triplet.f a1).bind fun t118 => ((phalaroperef03_Triplet.f a1).bind fun t119 => (some (t118 == t119)))) else (some false)))) else (some false)) else (some false)) else (some false)))))
theorem phalaropelaw03_PctOne.mono : ∀ a0 a1 k, LeO (phalaropelaw03_PctOne.f k a0 a1) (phalaropelaw03_PctOne.f (k + 1) a0 a1) := by
  intro a0 a1 k
  unfold phalaropelaw03_PctOne.f
  repeat' first
      | (with_reducible exact phalaroperef03_Digit.mono _ _)
      | (with_reducible exact LeO.refl _)
      | (with_reducible exact LeO.none _)
      | (with_reducible refine LeO.ite ?_ ?_)
      | (with_reducible refine LeO.bind ?_ (fun _ => ?_))
      | exact phalaroperef03_Digit.mono _ _
      | exact LeO.none _
      | refine LeO.ite ?_ ?_
      | refine LeO.bind ?_ (fun _ => ?_)
set_option maxHeartbeats 8000000 in
set_option maxRecDepth 100000 in
theorem phalaropelaw03_PctOne.calls (k : Nat) (a0 : Int) (a1 : ByteArray) (r : Bool) (w : World) (h : phalaropelaw03_PctOne.f k a0 a1 = some r) :
    Calls Try.prog 9 #[.int .u8 a0, .string a1] w fun e w' => e = .returned (.bool r) ∧ Below w.heap.size w w' := by
  have HB := Aside0.mk (Below.refl w.heap.size w)
  have H : ((phalaropelaw03_awake.f).bind fun t111 => (if (a1.size : Int) > 2000 then (some t111) else ((pct_Digit.f a0).bind fun bt112 => ((phalaroperef03_Digit.f k a0).bind fun bt114 => (if t111 = true then (if bt112.1 = bt114.1 then (if (bt112.2 == bt114.2) = true then ((pct_One.f a0).bind fun t116 => ((phalaroperef03_One.f a0).bind fun t117 => (if t116.toList = t117.toList then ((pct_Triplet.f a1).bind fun t118 => ((phalaroperef03_Triplet.f a1).bind fun t119 => (some (t118 == t119)))) else (some false)))) else (some false)) else (some false)) else (some false)))))) = some r := h
  clear h
  replace H := Option.bind_eq_some_iff.mp H
  obtain ⟨t111, A30, H⟩ := H
  replace H : (if (a1.size : Int) > 2000 then (some t111) else ((pct_Digit.f a0).bind fun bt112 => ((phalaroperef03_Digit.f k a0).bind fun bt114 => (if t111 = true then (if bt112.1 = bt114.1 then (if (bt112.2 == bt114.2) = true then ((pct_One.f a0).bind fun t116 => ((phalaroperef03_One.f a0).bind fun t117 => (if t116.toList = t117.toList then ((pct_Triplet.f a1).bind fun t118 => ((phalaroperef03_Triplet.f a1).bind fun t119 => (some (t118 == t119)))) else (some false)))) else (some false)) else (some false)) else (some false))))) = some r := H
  have A3 := Aside0.mk A30
  clear A30
  by_cases c4 : (a1.size : Int) > 2000
  · rw [if_pos c4] at H
    have c4b0 : decide (2000 < (a1.size : Int)) = true := decide_eq_true c4
    have c4b1 : decide (2000 < a1.size) = true := decide_eq_true (by omega)
    clear c4
    obtain rfl := Option.some.inj H
    go_enter Try.func9, Try.ntmps9
    go_wp2_with (first | ((with_reducible refine gate_callee (f := 41) rfl ?_); refine goesL_ (some 10) rfl rfl Try.func41 (by kernel_rfl) rfl #[] rfl (by (try simp only [List.map_toArray, List.map_cons, List.map_nil]); first | done | rfl | (simp only [List.length_drop, List.length_take]; rfl)) ?_; (with_reducible refine (phalaropelaw03_awake.calls  t111 _ A3.out).mono ?_); rintro e w5 ⟨rfl, hb⟩; refine ⟨_, rfl, ?_⟩; have n0_ := Aside0.mk (below_step (by repeat (first | (with_reducible first | exact HB.out | apply below_alloc | apply pw_below_drewN | apply below_drew1) | exact HB.out)) hb); clear HB; have HB := n0_; clear n0_; (try clear hb); (try clear hb2); (try clear hk); (try clear hi)))
    go_ret
    exact ⟨by first | rfl | (simp [errW_none, errW_some] <;> rfl) | (simp [*, errW_none, errW_some] <;> rfl), by repeat (first | (with_reducible first | exact HB.out | apply below_alloc | apply pw_below_drewN | apply below_drew1) | exact HB.out)⟩
  · rw [if_neg c4] at H
    have c4b0 : decide (2000 < (a1.size : Int)) = false := decide_eq_false c4
    have c4b1 : decide (2000 < a1.size) = false := decide_eq_false (by omega)
    clear c4
    replace H := Option.bind_eq_some_iff.mp H
    obtain ⟨⟨t112, t113⟩, A60, H⟩ := H
    replace H : ((phalaroperef03_Digit.f k a0).bind fun bt114 => (if t111 = true then (if t112 = bt114.1 then (if (t113 == bt114.2) = true then ((pct_One.f a0).bind fun t116 => ((phalaroperef03_One.f a0).bind fun t117 => (if t116.toList = t117.toList then ((pct_Triplet.f a1).bind fun t118 => ((phalaroperef03_Triplet.f a1).bind fun t119 => (some (t118 == t119)))) else (some false)))) else (some false)) else (some false)) else (some false))) = some r := H
    have A6 := Aside0.mk A60
    clear A60
    replace H := Option.bind_eq_some_iff.mp H
    obtain ⟨⟨t114, t115⟩, A70, H⟩ := H
    replace H : (if t111 = true then (if t112 = t114 then (if (t113 == t115) = true then ((pct_One.f a0).bind fun t116 => ((phalaroperef03_One.f a0).bind fun t117 => (if t116.toList = t117.toList then ((pct_Triplet.f a1).bind fun t118 => ((phalaroperef03_Triplet.f a1).bind fun t119 => (some (t118 == t119)))) else (some false)))) else (some false)) else (some false)) else (some false)) = some r := H
    have A7 := Aside0.mk A70
    clear A70
    by_cases c8 : t111 = true
    · subst c8
      have H1 : (if t112 = t114 then (if (t113 == t115) = true then ((pct_One.f a0).bind fun t116 => ((phalaroperef03_One.f a0).bind fun t117 => (if t116.toList = t117.toList then ((pct_Triplet.f a1).bind fun t118 => ((phalaroperef03_Triplet.f a1).bind fun t119 => (some (t118 == t119)))) else (some false)))) else (some false)) else (some false)) = some r := by rw [if_pos rfl] at H; exact H
      clear H
      have H := H1
      clear H1
      by_cases c9 : t112 = t114
      · rw [if_pos c9] at H
        have c9b0 : (t112 == t114) = true := beq_iff_eq.mpr c9
        have c9b1 : (t112 != t114) = false := bne_eq_false_iff_eq.mpr c9
        clear c9
        by_cases c10 : (t113 == t115) = true
        · rw [if_pos c10] at H
          have c10b0 : (t113 == t115) = true := c10
          (try (have c10b1 : decide (t113 = t115) = true := by simpa using c10))
          (try (have c10b2 : (t113 == t115) = true := by simpa using c10))
          clear c10
          replace H := Option.bind_eq_some_iff.mp H
          obtain ⟨t116, A110, H⟩ := H
          replace H : ((phalaroperef03_One.f a0).bind fun t117 => (if t116.toList = t117.toList then ((pct_Triplet.f a1).bind fun t118 => ((phalaroperef03_Triplet.f a1).bind fun t119 => (some (t118 == t119)))) else (some false))) = some r := H
          have A11 := Aside0.mk A110
          clear A110
          replace H := Option.bind_eq_some_iff.mp H
          obtain ⟨t117, A120, H⟩ := H
          replace H : (if t116.toList = t117.toList then ((pct_Triplet.f a1).bind fun t118 => ((phalaroperef03_Triplet.f a1).bind fun t119 => (some (t118 == t119)))) else (some false)) = some r := H
          have A12 := Aside0.mk A120
          clear A120
          by_cases c13 : t116.toList = t117.toList
          · rw [if_pos c13] at H
            have c13b0 : (t116.toList == t117.toList) = true := beq_iff_eq.mpr c13
            have c13b1 : (t116.toList != t117.toList) = false := bne_eq_false_iff_eq.mpr c13
            clear c13
            replace H := Option.bind_eq_some_iff.mp H
            obtain ⟨t118, A140, H⟩ := H
            replace H : ((phalaroperef03_Triplet.f a1).bind fun t119 => (some (t118 == t119))) = some r := H
            have A14 := Aside0.mk A140
            clear A140
            replace H := Option.bind_eq_some_iff.mp H
            obtain ⟨t119, A150, H⟩ := H
            replace H : (some (t118 == t119)) = some r := H
            have A15 := Aside0.mk A150
            clear A150
            obtain rfl := Option.some.inj H
            go_enter Try.func9, Try.ntmps9
            go_wp2_with (first | ((with_reducible refine gate_callee (f := 41) rfl ?_); refine goesL_ (some 10) rfl rfl Try.func41 (by kernel_rfl) rfl #[] rfl (by (try simp only [List.map_toArray, List.map_cons, List.map_nil]); first | done | rfl | (simp only [List.length_drop, List.length_take]; rfl)) ?_; (with_reducible refine (phalaropelaw03_awake.calls  true _ A3.out).mono ?_); rintro e w16 ⟨rfl, hb⟩; refine ⟨_, rfl, ?_⟩; have n0_ := Aside0.mk (below_step (by repeat (first | (with_reducible first | exact HB.out | apply below_alloc | apply pw_below_drewN | apply below_drew1) | exact HB.out)) hb); clear HB; have HB := n0_; clear n0_; (try clear hb); (try clear hb2); (try clear hk); (try clear hi)) | ((with_reducible refine gate_callee (f := 42) rfl ?_); refine goesL_ (some 17) rfl rfl Try.func42 (by kernel_rfl) rfl #[.int .u8 a0] rfl (by (try simp only [List.map_toArray, List.map_cons, List.map_nil]); first | done | rfl | (simp only [List.length_drop, List.length_take]; rfl)) ?_; (with_reducible refine (pct_Digit.calls a0 t112 t113 _ A6.out).mono ?_); rintro e w17 ⟨rfl, hb⟩; refine ⟨_, rfl, ?_⟩; have n0_ := Aside0.mk (below_step (by repeat (first | (with_reducible first | exact HB.out | apply below_alloc | apply pw_below_drewN | apply below_drew1) | exact HB.out)) hb); clear HB; have HB := n0_; clear n0_; (try clear hb); (try clear hb2); (try clear hk); (try clear hi)) | ((with_reducible refine gate_callee (f := 43) rfl ?_); refine goesL_ (some 22) rfl rfl Try.func43 (by kernel_rfl) rfl #[.int .u8 a0] rfl (by (try simp only [List.map_toArray, List.map_cons, List.map_nil]); first | done | rfl | (simp only [List.length_drop, List.length_take]; rfl)) ?_; (with_reducible refine (phalaroperef03_Digit.calls k a0 t114 t115 _ A7.out).mono ?_); rintro e w' ⟨rfl, ⟨nd, rfl⟩⟩; refine ⟨_, rfl, ?_⟩) | (go_at_call 44; (with_reducible refine (pct_One.calls a0 t116 _ A11.out).mono ?_); rintro e w18 ⟨rfl, hb⟩; have n0_ := Aside0.mk (below_step (by repeat (first | (with_reducible first | exact HB.out | apply below_alloc | apply pw_below_drewN | apply below_drew1) | exact HB.out)) hb); clear HB; have HB := n0_; clear n0_; (try clear hb); (try clear hb2); (try clear hk); (try clear hi)) | (go_at_call 45; (with_reducible refine (phalaroperef03_One.calls a0 t117 _ A12.out).mono ?_); rintro e w19 ⟨rfl, hb⟩; have n0_ := Aside0.mk (below_step (by repeat (first | (with_reducible first | exact HB.out | apply below_alloc | apply pw_below_drewN | apply below_drew1) | exact HB.out)) hb); clear HB; have HB := n0_; clear n0_; (try clear hb); (try clear hb2); (try clear hk); (try clear hi)) | (go_at_call 46; (with_reducible refine (pct_Triplet.calls a1 t118 _ A14.out).mono ?_); rintro e w20 ⟨rfl, hb⟩; have n0_ := Aside0.mk (below_step (by repeat (first | (with_reducible first | exact HB.out | apply below_alloc | apply pw_below_drewN | apply below_drew1) | exact HB.out)) hb); clear HB; have HB := n0_; clear n0_; (try clear hb); (try clear hb2); (try clear hk); (try clear hi)) | (go_at_call 47; (with_reducible refine (phalaroperef03_Triplet.calls a1 t119 _ A15.out).mono ?_); rintro e w' ⟨rfl, ⟨nd, rfl⟩⟩))
            go_ret
            exact ⟨by first | rfl | (simp [errW_none, errW_some] <;> rfl) | (simp [*, errW_none, errW_some] <;> rfl), by repeat (first | (with_reducible first | exact HB.out | apply below_alloc | apply pw_below_drewN | apply below_drew1) | exact HB.out)⟩
          · rw [if_neg c13] at H
            have c13b0 : (t116.toList == t117.toList) = false := beq_eq_false_iff_ne.mpr c13
            have c13b1 : (t116.toList != t117.toList) = true := bne_iff_ne.mpr c13
            obtain rfl := Option.some.inj H
            go_enter Try.func9, Try.ntmps9
            go_wp2_with (first | ((with_reducible refine gate_callee (f := 41) rfl ?_); refine goesL_ (some 10) rfl rfl Try.func41 (by kernel_rfl) rfl #[] rfl (by (try simp only [List.map_toArray, List.map_cons, List.map_nil]); first | done | rfl | (simp only [List.length_drop, List.length_take]; rfl)) ?_; (with_reducible refine (phalaropelaw03_awake.calls  true _ A3.out).mono ?_); rintro e w21 ⟨rfl, hb⟩; refine ⟨_, rfl, ?_⟩; have n0_ := Aside0.mk (below_step (by repeat (first | (with_reducible first | exact HB.out | apply below_alloc | apply pw_below_drewN | apply below_drew1) | exact HB.out)) hb); clear HB; have HB := n0_; clear n0_; (try clear hb); (try clear hb2); (try clear hk); (try clear hi)) | ((with_reducible refine gate_callee (f := 42) rfl ?_); refine goesL_ (some 17) rfl rfl Try.func42 (by kernel_rfl) rfl #[.int .u8 a0] rfl (by (try simp only [List.map_toArray, List.map_cons, List.map_nil]); first | done | rfl | (simp only [List.length_drop, List.length_take]; rfl)) ?_; (with_reducible refine (pct_Digit.calls a0 t112 t113 _ A6.out).mono ?_); rintro e w22 ⟨rfl, hb⟩; refine ⟨_, rfl, ?_⟩; have n0_ := Aside0.mk (below_step (by repeat (first | (with_reducible first | exact HB.out | apply below_alloc | apply pw_below_drewN | apply below_drew1) | exact HB.out)) hb); clear HB; have HB := n0_; clear n0_; (try clear hb); (try clear hb2); (try clear hk); (try clear hi)) | ((with_reducible refine gate_callee (f := 43) rfl ?_); refine goesL_ (some 22) rfl rfl Try.func43 (by kernel_rfl) rfl #[.int .u8 a0] rfl (by (try simp only [List.map_toArray, List.map_cons, List.map_nil]); first | done | rfl | (simp only [List.length_drop, List.length_take]; rfl)) ?_; (with_reducible refine (phalaroperef03_Digit.calls k a0 t114 t115 _ A7.out).mono ?_); rintro e w' ⟨rfl, ⟨nd, rfl⟩⟩; refine ⟨_, rfl, ?_⟩) | (go_at_call 44; (with_reducible refine (pct_One.calls a0 t116 _ A11.out).mono ?_); rintro e w23 ⟨rfl, hb⟩; have n0_ := Aside0.mk (below_step (by repeat (first | (with_reducible first | exact HB.out | apply below_alloc | apply pw_below_drewN | apply below_drew1) | exact HB.out)) hb); clear HB; have HB := n0_; clear n0_; (try clear hb); (try clear hb2); (try clear hk); (try clear hi)) | (go_at_call 45; (with_reducible refine (phalaroperef03_One.calls a0 t117 _ A12.out).mono ?_); rintro e w24 ⟨rfl, hb⟩; have n0_ := Aside0.mk (below_step (by repeat (first | (with_reducible first | exact HB.out | apply below_alloc | apply pw_below_drewN | apply below_drew1) | exact HB.out)) hb); clear HB; have HB := n0_; clear n0_; (try clear hb); (try clear hb2); (try clear hk); (try clear hi)))
            go_ret
            exact ⟨by first | rfl | (simp [errW_none, errW_some] <;> rfl) | (simp [*, errW_none, errW_some] <;> rfl), by repeat (first | (with_reducible first | exact HB.out | apply below_alloc | apply pw_below_drewN | apply below_drew1) | exact HB.out)⟩
        · rw [if_neg c10] at H
          have c10b0 : (t113 == t115) = false := by simpa using c10
          (try (have c10b1 : decide (t113 = t115) = false := by simpa using c10))
          (try (have c10b2 : (t113 == t115) = false := by simpa using c10))
          (try (have c10b3 : ¬ (t113 = t115) := by simpa using c10))
          clear c10
          obtain rfl := Option.some.inj H
          go_enter Try.func9, Try.ntmps9
          go_wp2_with (first | ((with_reducible refine gate_callee (f := 41) rfl ?_); refine goesL_ (some 10) rfl rfl Try.func41 (by kernel_rfl) rfl #[] rfl (by (try simp only [List.map_toArray, List.map_cons, List.map_nil]); first | done | rfl | (simp only [List.length_drop, List.length_take]; rfl)) ?_; (with_reducible refine (phalaropelaw03_awake.calls  true _ A3.out).mono ?_); rintro e w25 ⟨rfl, hb⟩; refine ⟨_, rfl, ?_⟩; have n0_ := Aside0.mk (below_step (by repeat (first | (with_reducible first | exact HB.out | apply below_alloc | apply pw_below_drewN | apply below_drew1) | exact HB.out)) hb); clear HB; have HB := n0_; clear n0_; (try clear hb); (try clear hb2); (try clear hk); (try clear hi)) | ((with_reducible refine gate_callee (f := 42) rfl ?_); refine goesL_ (some 17) rfl rfl Try.func42 (by kernel_rfl) rfl #[.int .u8 a0] rfl (by (try simp only [List.map_toArray, List.map_cons, List.map_nil]); first | done | rfl | (simp only [List.length_drop, List.length_take]; rfl)) ?_; (with_reducible refine (pct_Digit.calls a0 t112 t113 _ A6.out).mono ?_); rintro e w26 ⟨rfl, hb⟩; refine ⟨_, rfl, ?_⟩; have n0_ := Aside0.mk (below_step (by repeat (first | (with_reducible first | exact HB.out | apply below_alloc | apply pw_below_drewN | apply below_drew1) | exact HB.out)) hb); clear HB; have HB := n0_; clear n0_; (try clear hb); (try clear hb2); (try clear hk); (try clear hi)) | ((with_reducible refine gate_callee (f := 43) rfl ?_); refine goesL_ (some 22) rfl rfl Try.func43 (by kernel_rfl) rfl #[.int .u8 a0] rfl (by (try simp only [List.map_toArray, List.map_cons, List.map_nil]); first | done | rfl | (simp only [List.length_drop, List.length_take]; rfl)) ?_; (with_reducible refine (phalaroperef03_Digit.calls k a0 t114 t115 _ A7.out).mono ?_); rintro e w' ⟨rfl, ⟨nd, rfl⟩⟩; refine ⟨_, rfl, ?_⟩))
          go_ret
          exact ⟨by first | rfl | (simp [errW_none, errW_some] <;> rfl) | (simp [*, errW_none, errW_some] <;> rfl), by repeat (first | (with_reducible first | exact HB.out | apply below_alloc | apply pw_below_drewN | apply below_drew1) | exact HB.out)⟩
      · rw [if_neg c9] at H
        have c9b0 : (t112 == t114) = false := beq_eq_false_iff_ne.mpr c9
        have c9b1 : (t112 != t114) = true := bne_iff_ne.mpr c9
        obtain rfl := Option.some.inj H
        go_enter Try.func9, Try.ntmps9
        go_wp2_with (first | ((with_reducible refine gate_callee (f := 41) rfl ?_); refine goesL_ (some 10) rfl rfl Try.func41 (by kernel_rfl) rfl #[] rfl (by (try simp only [List.map_toArray, List.map_cons, List.map_nil]); first | done | rfl | (simp only [List.length_drop, List.length_take]; rfl)) ?_; (with_reducible refine (phalaropelaw03_awake.calls  true _ A3.out).mono ?_); rintro e w27 ⟨rfl, hb⟩; refine ⟨_, rfl, ?_⟩; have n0_ := Aside0.mk (below_step (by repeat (first | (with_reducible first | exact HB.out | apply below_alloc | apply pw_below_drewN | apply below_drew1) | exact HB.out)) hb); clear HB; have HB := n0_; clear n0_; (try clear hb); (try clear hb2); (try clear hk); (try clear hi)) | ((with_reducible refine gate_callee (f := 42) rfl ?_); refine goesL_ (some 17) rfl rfl Try.func42 (by kernel_rfl) rfl #[.int .u8 a0] rfl (by (try simp only [List.map_toArray, List.map_cons, List.map_nil]); first | done | rfl | (simp only [List.length_drop, List.length_take]; rfl)) ?_; (with_reducible refine (pct_Digit.calls a0 t112 t113 _ A6.out).mono ?_); rintro e w28 ⟨rfl, hb⟩; refine ⟨_, rfl, ?_⟩; have n0_ := Aside0.mk (below_step (by repeat (first | (with_reducible first | exact HB.out | apply below_alloc | apply pw_below_drewN | apply below_drew1) | exact HB.out)) hb); clear HB; have HB := n0_; clear n0_; (try clear hb); (try clear hb2); (try clear hk); (try clear hi)) | ((with_reducible refine gate_callee (f := 43) rfl ?_); refine goesL_ (some 22) rfl rfl Try.func43 (by kernel_rfl) rfl #[.int .u8 a0] rfl (by (try simp only [List.map_toArray, List.map_cons, List.map_nil]); first | done | rfl | (simp only [List.length_drop, List.length_take]; rfl)) ?_; (with_reducible refine (phalaroperef03_Digit.calls k a0 t114 t115 _ A7.out).mono ?_); rintro e w' ⟨rfl, ⟨nd, rfl⟩⟩; refine ⟨_, rfl, ?_⟩))
        go_ret
        exact ⟨by first | rfl | (simp [errW_none, errW_some] <;> rfl) | (simp [*, errW_none, errW_some] <;> rfl), by repeat (first | (with_reducible first | exact HB.out | apply below_alloc | apply pw_below_drewN | apply below_drew1) | exact HB.out)⟩
    · replace c8 := Bool.eq_false_iff.mpr c8
      subst c8
      have H1 : (some false) = some r := by rw [if_neg (show ¬ (false = true) by decide)] at H; exact H
      clear H
      have H := H1
      clear H1
      obtain rfl := Option.some.inj H
      go_enter Try.func9, Try.ntmps9
      go_wp2_with (first | ((with_reducible refine gate_callee (f := 41) rfl ?_); refine goesL_ (some 10) rfl rfl Try.func41 (by kernel_rfl) rfl #[] rfl (by (try simp only [List.map_toArray, List.map_cons, List.map_nil]); first | done | rfl | (simp only [List.length_drop, List.length_take]; rfl)) ?_; (with_reducible refine (phalaropelaw03_awake.calls  false _ A3.out).mono ?_); rintro e w29 ⟨rfl, hb⟩; refine ⟨_, rfl, ?_⟩; have n0_ := Aside0.mk (below_step (by repeat (first | (with_reducible first | exact HB.out | apply below_alloc | apply pw_below_drewN | apply below_drew1) | exact HB.out)) hb); clear HB; have HB := n0_; clear n0_; (try clear hb); (try clear hb2); (try clear hk); (try clear hi)) | ((with_reducible refine gate_callee (f := 42) rfl ?_); refine goesL_ (some 17) rfl rfl Try.func42 (by kernel_rfl) rfl #[.int .u8 a0] rfl (by (try simp only [List.map_toArray, List.map_cons, List.map_nil]); first | done | rfl | (simp only [List.length_drop, List.length_take]; rfl)) ?_; (with_reducible refine (pct_Digit.calls a0 t112 t113 _ A6.out).mono ?_); rintro e w30 ⟨rfl, hb⟩; refine ⟨_, rfl, ?_⟩; have n0_ := Aside0.mk (below_step (by repeat (first | (with_reducible first | exact HB.out | apply below_alloc | apply pw_below_drewN | apply below_drew1) | exact HB.out)) hb); clear HB; have HB := n0_; clear n0_; (try clear hb); (try clear hb2); (try clear hk); (try clear hi)) | ((with_reducible refine gate_callee (f := 43) rfl ?_); refine goesL_ (some 22) rfl rfl Try.func43 (by kernel_rfl) rfl #[.int .u8 a0] rfl (by (try simp only [List.map_toArray, List.map_cons, List.map_nil]); first | done | rfl | (simp only [List.length_drop, List.length_take]; rfl)) ?_; (with_reducible refine (phalaroperef03_Digit.calls k a0 t114 t115 _ A7.out).mono ?_); rintro e w' ⟨rfl, ⟨nd, rfl⟩⟩; refine ⟨_, rfl, ?_⟩))
      go_ret
      exact ⟨by first | rfl | (simp [errW_none, errW_some] <;> rfl) | (simp [*, errW_none, errW_some] <;> rfl), by repeat (first | (with_reducible first | exact HB.out | apply below_alloc | apply pw_below_drewN | apply below_drew1) | exact HB.out)⟩

/-- THE ONE PURE STATEMENT of phalaropelaw03_PctOne: yours. -/
def phalaropelaw03_PctOne.Pure : Prop := ∀ (a0 : Int) (a1 : ByteArray), (Lit.int .u8 a0).wf = true → a1.size ≤ 140737488351232 → ∃ k, phalaropelaw03_PctOne.f k a0 a1 = some true
theorem phalaropelaw03_PctOne.walk (P : phalaropelaw03_PctOne.Pure) (a0 : Int) (a1 : ByteArray) (w : World) (w0 : (Lit.int .u8 a0).wf = true) (w1 : a1.size ≤ 140737488351232) :
    Calls Try.prog 9 #[.int .u8 a0, .string a1] w fun e w' => e = .returned (.bool true) ∧ Below w.heap.size w w' := by
  obtain ⟨k, h⟩ := P a0 a1 w0 w1
  refine (phalaropelaw03_PctOne.calls k a0 a1 true w h).mono ?_
  rintro e w' ⟨rfl, hd⟩
  exact ⟨rfl, hd⟩

end Go.Proofs.Ytmondgamackcgaa.PPct
