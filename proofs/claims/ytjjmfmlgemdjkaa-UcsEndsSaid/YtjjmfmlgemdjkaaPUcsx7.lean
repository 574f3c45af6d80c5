-- PRINTED by print.py (a twelfth state) out of the translation. Not trusted: Lean checks it.
import Derived.Test.YtjjmfmlgemdjkaaPUcsx0
import Derived.Test.YtjjmfmlgemdjkaaPUcsx1
namespace Go.Proofs.Ytjjmfmlgemdjkaa.PUcs
open Go.RowKit Go.Proofs.YtjjmfmlgemdjkaaW.PrintWords Go.Proofs.YtjjmfmlgemdjkaaW.PrintLast Go.Proofs.YtjjmfmlgemdjkaaW.PrintMore
attribute [local go_sem] max2_int min2_int max_two min_two max_three min_three max_four min_four   -- for this text's walks alone
set_option linter.unusedVariables false
set_option linter.unusedSimpArgs false

/-! ### phalaropelaw04_UcsPlanes: function 13 -/
def phalaropelaw04_UcsPlanes.f (k : Nat) (a0 : Int) (a1 : Int) : Option (Bool) := (phalaropelaw04_awake.f k).bind fun t199 => (if (wrap64 (a1)) ≤ 65533 then (if (wrap64 (1 + (wrap64 (Int.tmod a0 16)))) = 14 then (if t199 = true then ((ucs_May.f (wrap64 ((wrap64 (65536 * (wrap64 (1 + (wrap64 (Int.tmod a0 16)))))) + (wrap64 (a1))))).bind fun t200 => (if (t200 == (decide ((wrap64 (a1)) ≥ 4096))) = true then ((ucs_May.f (Int.tmod (wrap64 (a1)) 128)).bind fun t201 => (if t201 = true then (some false) else ((ucs_May.f (wrap64 (-(wrap64 (a1))))).bind fun t202 => (some (!t202))))) else (some false))) else (some false)) else (if t199 = true then ((ucs_May.f (wrap64 ((wrap64 (65536 * (wrap64 (1 + (wrap64 (Int.tmod a0 16)))))) + (wrap64 (a1))))).bind fun t203 => (if (t203 == true) = true then ((ucs_May.f (Int.tmod (wrap64 (a1)) 128)).bind fun t204 => (if t204 = true then (some false) else ((ucs_May.f (wrap64 (-(wrap64 (a1))))).bind fun t205 => (some (!t205))))) else (some false))) else (some false))) else (if t199 = true then ((ucs_May.f (wrap64 ((wrap64 (65536 * (wrap64 (1 + (wrap64 (Int.tmod a0 16)))))) + (wrap64 (a1))))).bind fun t206 => (if (t206 == false) = true then ((ucs_May.f (Int.tmod (wrap64 (a1)) 128)).bind fun t207 => (if t207 = true then (some false) else ((ucs_May.f (wrap64 (-(wrap64 (a1))))).bind fun t208 => (some (!t208))))) else (some false))) else (some false)))
theorem phalaropelaw04_UcsPlanes.mono : ∀ a0 a1 k, LeO (phalaropelaw04_UcsPlanes.f k a0 a1) (phalaropelaw04_UcsPlanes.f (k + 1) a0 a1) := by
  intro a0 a1 k
  unfold phalaropelaw04_UcsPlanes.f
  repeat' first
      | (with_reducible exact phalaropelaw04_awake.mono _)
      | (with_reducible exact LeO.refl _)
      | (with_reducible exact LeO.none _)
      | (with_reducible refine LeO.ite ?_ ?_)
      | (with_reducible refine LeO.bind ?_ (fun _ => ?_))
      | exact phalaropelaw04_awake.mono _
      | exact LeO.none _
      | refine LeO.ite ?_ ?_
      | refine LeO.bind ?_ (fun _ => ?_)
set_option maxHeartbeats 8000000 in
set_option maxRecDepth 100000 in
theorem phalaropelaw04_UcsPlanes.calls (k : Nat) (a0 : Int) (a1 : Int) (r : Bool) (w : World) (h : phalaropelaw04_UcsPlanes.f k a0 a1 = some r) :
    Calls Try.prog 13 #[.int .u8 a0, .int .u16 a1] w fun e w' => e = .returned (.bool r) ∧ Below w.heap.size w w' := by
  have HB := Aside0.mk (Below.refl w.heap.size w)
  have H : ((phalaropelaw04_awake.f k).bind fun t199 => (if (wrap64 (a1)) ≤ 65533 then (if (wrap64 (1 + (wrap64 (Int.tmod a0 16)))) = 14 then (if t199 = true then ((ucs_May.f (wrap64 ((wrap64 (65536 * (wrap64 (1 + (wrap64 (Int.tmod a0 16)))))) + (wrap64 (a1))))).bind fun t200 => (if (t200 == (decide ((wrap64 (a1)) ≥ 4096))) = true then ((ucs_May.f (Int.tmod (wrap64 (a1)) 128)).bind fun t201 => (if t201 = true then (some false) else ((ucs_May.f (wrap64 (-(wrap64 (a1))))).bind fun t202 => (some (!t202))))) else (some false))) else (some false)) else (if t199 = true then ((ucs_May.f (wrap64 ((wrap64 (65536 * (wrap64 (1 + (wrap64 (Int.tmod a0 16)))))) + (wrap64 (a1))))).bind fun t203 => (if (t203 == true) = true then ((ucs_May.f (Int.tmod (wrap64 (a1)) 128)).bind fun t204 => (if t204 = true then (some false) else ((ucs_May.f (wrap64 (-(wrap64 (a1))))).bind fun t205 => (some (!t205))))) else (some false))) else (some false))) else (if t199 = true then ((ucs_May.f (wrap64 ((wrap64 (65536 * (wrap64 (1 + (wrap64 (Int.tmod a0 16)))))) + (wrap64 (a1))))).bind fun t206 => (if (t206 == false) = true then ((ucs_May.f (Int.tmod (wrap64 (a1)) 128)).bind fun t207 => (if t207 = true then (some false) else ((ucs_May.f (wrap64 (-(wrap64 (a1))))).bind fun t208 => (some (!t208))))) else (some false))) else (some false)))) = some r := h
  clear h
  replace H := Option.bind_eq_some_iff.mp H
  obtain ⟨t199, A30, H⟩ := H
  replace H : (if (wrap64 (a1)) ≤ 65533 then (if (wrap64 (1 + (wrap64 (Int.tmod a0 16)))) = 14 then (if t199 = true then ((ucs_May.f (wrap64 ((wrap64 (65536 * (wrap64 (1 + (wrap64 (Int.tmod a0 16)))))) + (wrap64 (a1))))).bind fun t200 => (if (t200 == (decide ((wrap64 (a1)) ≥ 4096))) = true then ((ucs_May.f (Int.tmod (wrap64 (a1)) 128)).bind fun t201 => (if t201 = true then (some false) else ((ucs_May.f (wrap64 (-(wrap64 (a1))))).bind fun t202 => (some (!t202))))) else (some false))) else (some false)) else (if t199 = true then ((ucs_May.f (wrap64 ((wrap64 (65536 * (wrap64 (1 + (wrap64 (Int.tmod a0 16)))))) + (wrap64 (a1))))).bind fun t203 => (if (t203 == true) = true then ((ucs_May.f (Int.tmod (wrap64 (a1)) 128)).bind fun t204 => (if t204 = true then (some false) else ((ucs_May.f (wrap64 (-(wrap64 (a1))))).bind fun t205 => (some (!t205))))) else (some false))) else (some false))) else (if t199 = true then ((ucs_May.f (wrap64 ((wrap64 (65536 * (wrap64 (1 + (wrap64 (Int.tmod a0 16)))))) + (wrap64 (a1))))).bind fun t206 => (if (t206 == false) = true then ((ucs_May.f (Int.tmod (wrap64 (a1)) 128)).bind fun t207 => (if t207 = true then (some false) else ((ucs_May.f (wrap64 (-(wrap64 (a1))))).bind fun t208 => (some (!t208))))) else (some false))) else (some false))) = some r := H
  have A3 := Aside0.mk A30
  clear A30
  by_cases c4 : (wrap64 (a1)) ≤ 65533
  · rw [if_pos c4] at H
    have c4b0 : decide ((wrap64 (a1)) ≤ 65533) = true := decide_eq_true c4
    clear c4
    by_cases c5 : (wrap64 (1 + (wrap64 (Int.tmod a0 16)))) = 14
    · rw [if_pos c5] at H
      have c5b0 : ((wrap64 (1 + (wrap64 (Int.tmod a0 16)))) == 14) = true := beq_iff_eq.mpr c5
      have c5b1 : ((wrap64 (1 + (wrap64 (Int.tmod a0 16)))) != 14) = false := bne_eq_false_iff_eq.mpr c5
      clear c5
      by_cases c6 : t199 = true
      · subst c6
        have H1 : ((ucs_May.f (wrap64 ((wrap64 (65536 * (wrap64 (1 + (wrap64 (Int.tmod a0 16)))))) + (wrap64 (a1))))).bind fun t200 => (if (t200 == (decide ((wrap64 (a1)) ≥ 4096))) = true then ((ucs_May.f (Int.tmod (wrap64 (a1)) 128)).bind fun t201 => (if t201 = true then (some false) else ((ucs_May.f (wrap64 (-(wrap64 (a1))))).bind fun t202 => (some (!t202))))) else (some false))) = some r := by rw [if_pos rfl] at H; exact H
        clear H
        have H := H1
        clear H1
        replace H := Option.bind_eq_some_iff.mp H
        obtain ⟨t200, A70, H⟩ := H
        replace H : (if (t200 == (decide ((wrap64 (a1)) ≥ 4096))) = true then ((ucs_May.f (Int.tmod (wrap64 (a1)) 128)).bind fun t201 => (if t201 = true then (some false) else ((ucs_May.f (wrap64 (-(wrap64 (a1))))).bind fun t202 => (some (!t202))))) else (some false)) = some r := H
        have A7 := Aside0.mk A70
        clear A70
        by_cases c8 : (t200 == (decide ((wrap64 (a1)) ≥ 4096))) = true
        · rw [if_pos c8] at H
          have c8b0 : (t200 == (decide ((wrap64 (a1)) ≥ 4096))) = true := c8
          (try (have c8b1 : decide (t200 = (decide ((wrap64 (a1)) ≥ 4096))) = true := by simpa using c8))
          (try (have c8b2 : (t200 == (decide ((wrap64 (a1)) ≥ 4096))) = true := by simpa using c8))
          clear c8
          replace H := Option.bind_eq_some_iff.mp H
          obtain ⟨t201, A90, H⟩ := H
          replace H : (if t201 = true then (some false) else ((ucs_May.f (wrap64 (-(wrap64 (a1))))).bind fun t202 => (some (!t202)))) = some r := H
          have A9 := Aside0.mk A90
          clear A90
          by_cases c10 : t201 = true
          · subst c10
            have H1 : (some false) = some r := by rw [if_pos rfl] at H; exact H
            clear H
            have H := H1
            clear H1
            obtain rfl := Option.some.inj H
            go_enter Try.func13, Try.ntmps13
            go_wp2_with (first | ((with_reducible refine gate_callee (f := 35) rfl ?_); refine goesL_ (some 9) rfl rfl Try.func35 (by kernel_rfl) rfl #[] rfl (by (try simp only [List.map_toArray, List.map_cons, List.map_nil]); first | done | rfl | (simp only [List.length_drop, List.length_take]; rfl)) ?_; (with_reducible refine (phalaropelaw04_awake.calls k  true _ A3.out).mono ?_); rintro e w11 ⟨rfl, hb⟩; refine ⟨_, rfl, ?_⟩; have n0_ := Aside0.mk (below_step (by repeat (first | (with_reducible first | exact HB.out | apply below_alloc | apply pw_below_drewN | apply below_drew1) | exact HB.out)) hb); clear HB; have HB := n0_; clear n0_; (try clear hb); (try clear hb2); (try clear hk); (try clear hi)) | (go_at_call 38; (with_reducible refine (ucs_May.calls (wrap64 ((wrap64 (65536 * (wrap64 (1 + (wrap64 (Int.tmod a0 16)))))) + (wrap64 (a1)))) t200 _ A7.out).mono ?_); rintro e w12 ⟨rfl, hb⟩; have n0_ := Aside0.mk (below_step (by repeat (first | (with_reducible first | exact HB.out | apply below_alloc | apply pw_below_drewN | apply below_drew1) | exact HB.out)) hb); clear HB; have HB := n0_; clear n0_; (try clear hb); (try clear hb2); (try clear hk); (try clear hi)) | (go_at_call 38; (with_reducible refine (ucs_May.calls (Int.tmod (wrap64 (a1)) 128) true _ A9.out).mono ?_); rintro e w13 ⟨rfl, hb⟩; have n0_ := Aside0.mk (below_step (by repeat (first | (with_reducible first | exact HB.out | apply below_alloc | apply pw_below_drewN | apply below_drew1) | exact HB.out)) hb); clear HB; have HB := n0_; clear n0_; (try clear hb); (try clear hb2); (try clear hk); (try clear hi)))
            go_ret
            exact ⟨by first | rfl | (simp [errW_none, errW_some] <;> rfl) | (simp [*, errW_none, errW_some] <;> rfl), by repeat (first | (with_reducible first | exact HB.out | apply below_alloc | apply pw_below_drewN | apply below_drew1) | exact HB.out)⟩
          · replace c10 := Bool.eq_false_iff.mpr c10
            subst c10
            have H1 : ((ucs_May.f (wrap64 (-(wrap64 (a1))))).bind fun t202 => (some (!t202))) = some r := by rw [if_neg (show ¬ (false = true) by decide)] at H; exact H
            clear H
            have H := H1
            clear H1
            replace H := Option.bind_eq_some_iff.mp H
            obtain ⟨t202, A140, H⟩ := H
            replace H : (some (!t202)) = some r := H
            have A14 := Aside0.mk A140
            clear A140
            obtain rfl := Option.some.inj H
            go_enter Try.func13, Try.ntmps13
            go_wp2_with (first | ((with_reducible refine gate_callee (f := 35) rfl ?_); refine goesL_ (some 9) rfl rfl Try.func35 (by kernel_rfl) rfl #[] rfl (by (try simp only [List.map_toArray, List.map_cons, List.map_nil]); first | done | rfl | (simp only [List.length_drop, List.length_take]; rfl)) ?_; (with_reducible refine (phalaropelaw04_awake.calls k  true _ A3.out).mono ?_); rintro e w15 ⟨rfl, hb⟩; refine ⟨_, rfl, ?_⟩; have n0_ := Aside0.mk (below_step (by repeat (first | (with_reducible first | exact HB.out | apply below_alloc | apply pw_below_drewN | apply below_drew1) | exact HB.out)) hb); clear HB; have HB := n0_; clear n0_; (try clear hb); (try clear hb2); (try clear hk); (try clear hi)) | (go_at_call 38; (with_reducible refine (ucs_May.calls (wrap64 ((wrap64 (65536 * (wrap64 (1 + (wrap64 (Int.tmod a0 16)))))) + (wrap64 (a1)))) t200 _ A7.out).mono ?_); rintro e w16 ⟨rfl, hb⟩; have n0_ := Aside0.mk (below_step (by repeat (first | (with_reducible first | exact HB.out | apply below_alloc | apply pw_below_drewN | apply below_drew1) | exact HB.out)) hb); clear HB; have HB := n0_; clear n0_; (try clear hb); (try clear hb2); (try clear hk); (try clear hi)) | (go_at_call 38; (with_reducible refine (ucs_May.calls (Int.tmod (wrap64 (a1)) 128) false _ A9.out).mono ?_); rintro e w17 ⟨rfl, hb⟩; have n0_ := Aside0.mk (below_step (by repeat (first | (with_reducible first | exact HB.out | apply below_alloc | apply pw_below_drewN | apply below_drew1) | exact HB.out)) hb); clear HB; have HB := n0_; clear n0_; (try clear hb); (try clear hb2); (try clear hk); (try clear hi)) | (go_at_call 38; (with_reducible refine (ucs_May.calls (wrap64 (-(wrap64 (a1)))) t202 _ A14.out).mono ?_); rintro e w18 ⟨rfl, hb⟩; have n0_ := Aside0.mk (below_step (by repeat (first | (with_reducible first | exact HB.out | apply below_alloc | apply pw_below_drewN | apply below_drew1) | exact HB.out)) hb); clear HB; have HB := n0_; clear n0_; (try clear hb); (try clear hb2); (try clear hk); (try clear hi)))
            go_ret
            exact ⟨by first | rfl | (simp [errW_none, errW_some] <;> rfl) | (simp [*, errW_none, errW_some] <;> rfl), by repeat (first | (with_reducible first | exact HB.out | apply below_alloc | apply pw_below_drewN | apply below_drew1) | exact HB.out)⟩
        · rw [if_neg c8] at H
          have c8b0 : (t200 == (decide ((wrap64 (a1)) ≥ 4096))) = false := by simpa using c8
          (try (have c8b1 : decide (t200 = (decide ((wrap64 (a1)) ≥ 4096))) = false := by simpa using c8))
          (try (have c8b2 : (t200 == (decide ((wrap64 (a1)) ≥ 4096))) = false := by simpa using c8))
          (try (have c8b3 : ¬ (t200 = (decide ((wrap64 (a1)) ≥ 4096))) := by simpa using c8))
          clear c8
          obtain rfl := Option.some.inj H
          go_enter Try.func13, Try.ntmps13
          go_wp2_with (first | ((with_reducible refine gate_callee (f := 35) rfl ?_); refine goesL_ (some 9) rfl rfl Try.func35 (by kernel_rfl) rfl #[] rfl (by (try simp only [List.map_toArray, List.map_cons, List.map_nil]); first | done | rfl | (simp only [List.length_drop, List.length_take]; rfl)) ?_; (with_reducible refine (phalaropelaw04_awake.calls k  true _ A3.out).mono ?_); rintro e w19 ⟨rfl, hb⟩; refine ⟨_, rfl, ?_⟩; have n0_ := Aside0.mk (below_step (by repeat (first | (with_reducible first | exact HB.out | apply below_alloc | apply pw_below_drewN | apply below_drew1) | exact HB.out)) hb); clear HB; have HB := n0_; clear n0_; (try clear hb); (try clear hb2); (try clear hk); (try clear hi)) | (go_at_call 38; (with_reducible refine (ucs_May.calls (wrap64 ((wrap64 (65536 * (wrap64 (1 + (wrap64 (Int.tmod a0 16)))))) + (wrap64 (a1)))) t200 _ A7.out).mono ?_); rintro e w20 ⟨rfl, hb⟩; have n0_ := Aside0.mk (below_step (by repeat (first | (with_reducible first | exact HB.out | apply below_alloc | apply pw_below_drewN | apply below_drew1) | exact HB.out)) hb); clear HB; have HB := n0_; clear n0_; (try clear hb); (try clear hb2); (try clear hk); (try clear hi)))
          go_ret
          exact ⟨by first | rfl | (simp [errW_none, errW_some] <;> rfl) | (simp [*, errW_none, errW_some] <;> rfl), by repeat (first | (with_reducible first | exact HB.out | apply below_alloc | apply pw_below_drewN | apply below_drew1) | exact HB.out)⟩
      · replace c6 := Bool.eq_false_iff.mpr c6
        subst c6
        have H1 : (some false) = some r := by rw [if_neg (show ¬ (false = true) by decide)] at H; exact H
        clear H
        have H := H1
        clear H1
        obtain rfl := Option.some.inj H
        go_enter Try.func13, Try.ntmps13
        go_wp2_with (first | ((with_reducible refine gate_callee (f := 35) rfl ?_); refine goesL_ (some 9) rfl rfl Try.func35 (by kernel_rfl) rfl #[] rfl (by (try simp only [List.map_toArray, List.map_cons, List.map_nil]); first | done | rfl | (simp only [List.length_drop, List.length_take]; rfl)) ?_; (with_reducible refine (phalaropelaw04_awake.calls k  false _ A3.out).mono ?_); rintro e w21 ⟨rfl, hb⟩; refine ⟨_, rfl, ?_⟩; have n0_ := Aside0.mk (below_step (by repeat (first | (with_reducible first | exact HB.out | apply below_alloc | apply pw_below_drewN | apply below_drew1) | exact HB.out)) hb); clear HB; have HB := n0_; clear n0_; (try clear hb); (try clear hb2); (try clear hk); (try clear hi)))
        go_ret
        exact ⟨by first | rfl | (simp [errW_none, errW_some] <;> rfl) | (simp [*, errW_none, errW_some] <;> rfl), by repeat (first | (with_reducible first | exact HB.out | apply below_alloc | apply pw_below_drewN | apply below_drew1) | exact HB.out)⟩
    · rw [if_neg c5] at H
      have c5b0 : ((wrap64 (1 + (wrap64 (Int.tmod a0 16)))) == 14) = false := beq_eq_false_iff_ne.mpr c5
      have c5b1 : ((wrap64 (1 + (wrap64 (Int.tmod a0 16)))) != 14) = true := bne_iff_ne.mpr c5
      by_cases c22 : t199 = true
      · subst c22
        have H1 : ((ucs_May.f (wrap64 ((wrap64 (65536 * (wrap64 (1 + (wrap64 (Int.tmod a0 16)))))) + (wrap64 (a1))))).bind fun t203 => (if (t203 == true) = true then ((ucs_May.f (Int.tmod (wrap64 (a1)) 128)).bind fun t204 => (if t204 = true then (some false) else ((ucs_May.f (wrap64 (-(wrap64 (a1))))).bind fun t205 => (some (!t205))))) else (some false))) = some r := by rw [if_pos rfl] at H; exact H
        clear H
        have H := H1
        clear H1
        replace H := Option.bind_eq_some_iff.mp H
        obtain ⟨t203, A230, H⟩ := H
        replace H : (if (t203 == true) = true then ((ucs_May.f (Int.tmod (wrap64 (a1)) 128)).bind fun t204 => (if t204 = true then (some false) else ((ucs_May.f (wrap64 (-(wrap64 (a1))))).bind fun t205 => (some (!t205))))) else (some false)) = some r := H
        have A23 := Aside0.mk A230
        clear A230
        by_cases c24 : (t203 == true) = true
        · rw [if_pos c24] at H
          have c24b0 : (t203 == true) = true := c24
          (try (have c24b1 : decide (t203 = true) = true := by simpa using c24))
          (try (have c24b2 : (t203 == true) = true := by simpa using c24))
          clear c24
          replace H := Option.bind_eq_some_iff.mp H
          obtain ⟨t204, A250, H⟩ := H
          replace H : (if t204 = true then (some false) else ((ucs_May.f (wrap64 (-(wrap64 (a1))))).bind fun t205 => (some (!t205)))) = some r := H
          have A25 := Aside0.mk A250
          clear A250
          by_cases c26 : t204 = true
          · subst c26
            have H1 : (some false) = some r := by rw [if_pos rfl] at H; exact H
            clear H
            have H := H1
            clear H1
            obtain rfl := Option.some.inj H
            go_enter Try.func13, Try.ntmps13
            go_wp2_with (first | ((with_reducible refine gate_callee (f := 35) rfl ?_); refine goesL_ (some 9) rfl rfl Try.func35 (by kernel_rfl) rfl #[] rfl (by (try simp only [List.map_toArray, List.map_cons, List.map_nil]); first | done | rfl | (simp only [List.length_drop, List.length_take]; rfl)) ?_; (with_reducible refine (phalaropelaw04_awake.calls k  true _ A3.out).mono ?_); rintro e w27 ⟨rfl, hb⟩; refine ⟨_, rfl, ?_⟩; have n0_ := Aside0.mk (below_step (by repeat (first | (with_reducible first | exact HB.out | apply below_alloc | apply pw_below_drewN | apply below_drew1) | exact HB.out)) hb); clear HB; have HB := n0_; clear n0_; (try clear hb); (try clear hb2); (try clear hk); (try clear hi)) | (go_at_call 38; (with_reducible refine (ucs_May.calls (wrap64 ((wrap64 (65536 * (wrap64 (1 + (wrap64 (Int.tmod a0 16)))))) + (wrap64 (a1)))) t203 _ A23.out).mono ?_); rintro e w28 ⟨rfl, hb⟩; have n0_ := Aside0.mk (below_step (by repeat (first | (with_reducible first | exact HB.out | apply below_alloc | apply pw_below_drewN | apply below_drew1) | exact HB.out)) hb); clear HB; have HB := n0_; clear n0_; (try clear hb); (try clear hb2); (try clear hk); (try clear hi)) | (go_at_call 38; (with_reducible refine (ucs_May.calls (Int.tmod (wrap64 (a1)) 128) true _ A25.out).mono ?_); rintro e w29 ⟨rfl, hb⟩; have n0_ := Aside0.mk (below_step (by repeat (first | (with_reducible first | exact HB.out | apply below_alloc | apply pw_below_drewN | apply below_drew1) | exact HB.out)) hb); clear HB; have HB := n0_; clear n0_; (try clear hb); (try clear hb2); (try clear hk); (try clear hi)))
            go_ret
            exact ⟨by first | rfl | (simp [errW_none, errW_some] <;> rfl) | (simp [*, errW_none, errW_some] <;> rfl), by repeat (first | (with_reducible first | exact HB.out | apply below_alloc | apply pw_below_drewN | apply below_drew1) | exact HB.out)⟩
          · replace c26 := Bool.eq_false_iff.mpr c26
            subst c26
            have H1 : ((ucs_May.f (wrap64 (-(wrap64 (a1))))).bind fun t205 => (some (!t205))) = some r := by rw [if_neg (show ¬ (false = true) by decide)] at H; exact H
            clear H
            have H := H1
            clear H1
            replace H := Option.bind_eq_some_iff.mp H
            obtain ⟨t205, A300, H⟩ := H
            replace H : (some (!t205)) = some r := H
            have A30 := Aside0.mk A300
            clear A300
            obtain rfl := Option.some.inj H
            go_enter Try.func13, Try.ntmps13
            go_wp2_with (first | ((with_reducible refine gate_callee (f := 35) rfl ?_); refine goesL_ (some 9) rfl rfl Try.func35 (by kernel_rfl) rfl #[] rfl (by (try simp only [List.map_toArray, List.map_cons, List.map_nil]); first | done | rfl | (simp only [List.length_drop, List.length_take]; rfl)) ?_; (with_reducible refine (phalaropelaw04_awake.calls k  true _ A3.out).mono ?_); rintro e w31 ⟨rfl, hb⟩; refine ⟨_, rfl, ?_⟩; have n0_ := Aside0.mk (below_step (by repeat (first | (with_reducible first | exact HB.out | apply below_alloc | apply pw_below_drewN | apply below_drew1) | exact HB.out)) hb); clear HB; have HB := n0_; clear n0_; (try clear hb); (try clear hb2); (try clear hk); (try clear hi)) | (go_at_call 38; (with_reducible refine (ucs_May.calls (wrap64 ((wrap64 (65536 * (wrap64 (1 + (wrap64 (Int.tmod a0 16)))))) + (wrap64 (a1)))) t203 _ A23.out).mono ?_); rintro e w32 ⟨rfl, hb⟩; have n0_ := Aside0.mk (below_step (by repeat (first | (with_reducible first | exact HB.out | apply below_alloc | apply pw_below_drewN | apply below_drew1) | exact HB.out)) hb); clear HB; have HB := n0_; clear n0_; (try clear hb); (try clear hb2); (try clear hk); (try clear hi)) | (go_at_call 38; (with_reducible refine (ucs_May.calls (Int.tmod (wrap64 (a1)) 128) false _ A25.out).mono ?_); rintro e w33 ⟨rfl, hb⟩; have n0_ := Aside0.mk (below_step (by repeat (first | (with_reducible first | exact HB.out | apply below_alloc | apply pw_below_drewN | apply below_drew1) | exact HB.out)) hb); clear HB; have HB := n0_; clear n0_; (try clear hb); (try clear hb2); (try clear hk); (try clear hi)) | (go_at_call 38; (with_reducible refine (ucs_May.calls (wrap64 (-(wrap64 (a1)))) t205 _ A30.out).mono ?_); rintro e w34 ⟨rfl, hb⟩; have n0_ := Aside0.mk (below_step (by repeat (first | (with_reducible first | exact HB.out | apply below_alloc | apply pw_below_drewN | apply below_drew1) | exact HB.out)) hb); clear HB; have HB := n0_; clear n0_; (try clear hb); (try clear hb2); (try clear hk); (try clear hi)))
            go_ret
            exact ⟨by first | rfl | (simp [errW_none, errW_some] <;> rfl) | (simp [*, errW_none, errW_some] <;> rfl), by repeat (first | (with_reducible first | exact HB.out | apply below_alloc | apply pw_below_drewN | apply below_drew1) | exact HB.out)⟩
        · rw [if_neg c24] at H
          have c24b0 : (t203 == true) = false := by simpa using c24
          (try (have c24b1 : decide (t203 = true) = false := by simpa using c24))
          (try (have c24b2 : (t203 == true) = false := by simpa using c24))
          (try (have c24b3 : ¬ (t203 = true) := by simpa using c24))
          clear c24
          obtain rfl := Option.some.inj H
          go_enter Try.func13, Try.ntmps13
          go_wp2_with (first | ((with_reducible refine gate_callee (f := 35) rfl ?_); refine goesL_ (some 9) rfl rfl Try.func35 (by kernel_rfl) rfl #[] rfl (by (try simp only [List.map_toArray, List.map_cons, List.map_nil]); first | done | rfl | (simp only [List.length_drop, List.length_take]; rfl)) ?_; (with_reducible refine (phalaropelaw04_awake.calls k  true _ A3.out).mono ?_); rintro e w35 ⟨rfl, hb⟩; refine ⟨_, rfl, ?_⟩; have n0_ := Aside0.mk (below_step (by repeat (first | (with_reducible first | exact HB.out | apply below_alloc | apply pw_below_drewN | apply below_drew1) | exact HB.out)) hb); clear HB; have HB := n0_; clear n0_; (try clear hb); (try clear hb2); (try clear hk); (try clear hi)) | (go_at_call 38; (with_reducible refine (ucs_May.calls (wrap64 ((wrap64 (65536 * (wrap64 (1 + (wrap64 (Int.tmod a0 16)))))) + (wrap64 (a1)))) t203 _ A23.out).mono ?_); rintro e w36 ⟨rfl, hb⟩; have n0_ := Aside0.mk (below_step (by repeat (first | (with_reducible first | exact HB.out | apply below_alloc | apply pw_below_drewN | apply below_drew1) | exact HB.out)) hb); clear HB; have HB := n0_; clear n0_; (try clear hb); (try clear hb2); (try clear hk); (try clear hi)))
          go_ret
          exact ⟨by first | rfl | (simp [errW_none, errW_some] <;> rfl) | (simp [*, errW_none, errW_some] <;> rfl), by repeat (first | (with_reducible first | exact HB.out | apply below_alloc | apply pw_below_drewN | apply below_drew1) | exact HB.out)⟩
      · replace c22 := Bool.eq_false_iff.mpr c22
        subst c22
        have H1 : (some false) = some r := by rw [if_neg (show ¬ (false = true) by decide)] at H; exact H
        clear H
        have H := H1
        clear H1
        obtain rfl := Option.some.inj H
        go_enter Try.func13, Try.ntmps13
        go_wp2_with (first | ((with_reducible refine gate_callee (f := 35) rfl ?_); refine goesL_ (some 9) rfl rfl Try.func35 (by kernel_rfl) rfl #[] rfl (by (try simp only [List.map_toArray, List.map_cons, List.map_nil]); first | done | rfl | (simp only [List.length_drop, List.length_take]; rfl)) ?_; (with_reducible refine (phalaropelaw04_awake.calls k  false _ A3.out).mono ?_); rintro e w37 ⟨rfl, hb⟩; refine ⟨_, rfl, ?_⟩; have n0_ := Aside0.mk (below_step (by repeat (first | (with_reducible first | exact HB.out | apply below_alloc | apply pw_below_drewN | apply below_drew1) | exact HB.out)) hb); clear HB; have HB := n0_; clear n0_; (try clear hb); (try clear hb2); (try clear hk); (try clear hi)))
        go_ret
        exact ⟨by first | rfl | (simp [errW_none, errW_some] <;> rfl) | (simp [*, errW_none, errW_some] <;> rfl), by repeat (first | (with_reducible first | exact HB.out | apply below_alloc | apply pw_below_drewN | apply below_drew1) | exact HB.out)⟩
  · rw [if_neg c4] at H
    have c4b0 : decide ((wrap64 (a1)) ≤ 65533) = false := decide_eq_false c4
    clear c4
    by_cases c38 : t199 = true
    · subst c38
      have H1 : ((ucs_May.f (wrap64 ((wrap64 (65536 * (wrap64 (1 + (wrap64 (Int.tmod a0 16)))))) + (wrap64 (a1))))).bind fun t206 => (if (t206 == false) = true then ((ucs_May.f (Int.tmod (wrap64 (a1)) 128)).bind fun t207 => (if t207 = true then (some false) else ((ucs_May.f (wrap64 (-(wrap64 (a1))))).bind fun t208 => (some (!t208))))) else (some false))) = some r := by rw [if_pos rfl] at H; exact H
      clear H
      have H := H1
      clear H1
      replace H := Option.bind_eq_some_iff.mp H
      obtain ⟨t206, A390, H⟩ := H
      replace H : (if (t206 == false) = true then ((ucs_May.f (Int.tmod (wrap64 (a1)) 128)).bind fun t207 => (if t207 = true then (some false) else ((ucs_May.f (wrap64 (-(wrap64 (a1))))).bind fun t208 => (some (!t208))))) else (some false)) = some r := H
      have A39 := Aside0.mk A390
      clear A390
      by_cases c40 : (t206 == false) = true
      · rw [if_pos c40] at H
        have c40b0 : (t206 == false) = true := c40
        (try (have c40b1 : decide (t206 = false) = true := by simpa using c40))
        (try (have c40b2 : (t206 == false) = true := by simpa using c40))
        clear c40
        replace H := Option.bind_eq_some_iff.mp H
        obtain ⟨t207, A410, H⟩ := H
        replace H : (if t207 = true then (some false) else ((ucs_May.f (wrap64 (-(wrap64 (a1))))).bind fun t208 => (some (!t208)))) = some r := H
        have A41 := Aside0.mk A410
        clear A410
        by_cases c42 : t207 = true
        · subst c42
          have H1 : (some false) = some r := by rw [if_pos rfl] at H; exact H
          clear H
          have H := H1
          clear H1
          obtain rfl := Option.some.inj H
          go_enter Try.func13, Try.ntmps13
          go_wp2_with (first | ((with_reducible refine gate_callee (f := 35) rfl ?_); refine goesL_ (some 9) rfl rfl Try.func35 (by kernel_rfl) rfl #[] rfl (by (try simp only [List.map_toArray, List.map_cons, List.map_nil]); first | done | rfl | (simp only [List.length_drop, List.length_take]; rfl)) ?_; (with_reducible refine (phalaropelaw04_awake.calls k  true _ A3.out).mono ?_); rintro e w43 ⟨rfl, hb⟩; refine ⟨_, rfl, ?_⟩; have n0_ := Aside0.mk (below_step (by repeat (first | (with_reducible first | exact HB.out | apply below_alloc | apply pw_below_drewN | apply below_drew1) | exact HB.out)) hb); clear HB; have HB := n0_; clear n0_; (try clear hb); (try clear hb2); (try clear hk); (try clear hi)) | (go_at_call 38; (with_reducible refine (ucs_May.calls (wrap64 ((wrap64 (65536 * (wrap64 (1 + (wrap64 (Int.tmod a0 16)))))) + (wrap64 (a1)))) t206 _ A39.out).mono ?_); rintro e w44 ⟨rfl, hb⟩; have n0_ := Aside0.mk (below_step (by repeat (first | (with_reducible first | exact HB.out | apply below_alloc | apply pw_below_drewN | apply below_drew1) | exact HB.out)) hb); clear HB; have HB := n0_; clear n0_; (try clear hb); (try clear hb2); (try clear hk); (try clear hi)) | (go_at_call 38; (with_reducible refine (ucs_May.calls (Int.tmod (wrap64 (a1)) 128) true _ A41.out).mono ?_); rintro e w45 ⟨rfl, hb⟩; have n0_ := Aside0.mk (below_step (by repeat (first | (with_reducible first | exact HB.out | apply below_alloc | apply pw_below_drewN | apply below_drew1) | exact HB.out)) hb); clear HB; have HB := n0_; clear n0_; (try clear hb); (try clear hb2); (try clear hk); (try clear hi)))
          go_ret
          exact ⟨by first | rfl | (simp [errW_none, errW_some] <;> rfl) | (simp [*, errW_none, errW_some] <;> rfl), by repeat (first | (with_reducible first | exact HB.out | apply below_alloc | apply pw_below_drewN | apply below_drew1) | exact HB.out)⟩
        · replace c42 := Bool.eq_false_iff.mpr c42
          subst c42
          have H1 : ((ucs_May.f (wrap64 (-(wrap64 (a1))))).bind fun t208 => (some (!t208))) = some r := by rw [if_neg (show ¬ (false = true) by decide)] at H; exact H
          clear H
          have H := H1
          clear H1
          replace H := Option.bind_eq_some_iff.mp H
          obtain ⟨t208, A460, H⟩ := H
          replace H : (some (!t208)) = some r := H
          have A46 := Aside0.mk A460
          clear A460
          obtain rfl := Option.some.inj H
          go_enter Try.func13, Try.ntmps13
          go_wp2_with (first | ((with_reducible refine gate_callee (f := 35) rfl ?_); refine goesL_ (some 9) rfl rfl Try.func35 (by kernel_rfl) rfl #[] rfl (by (try simp only [List.map_toArray, List.map_cons, List.map_nil]); first | done | rfl | (simp only [List.length_drop, List.length_take]; rfl)) ?_; (with_reducible refine (phalaropelaw04_awake.calls k  true _ A3.out).mono ?_); rintro e w47 ⟨rfl, hb⟩; refine ⟨_, rfl, ?_⟩; have n0_ := Aside0.mk (below_step (by repeat (first | (with_reducible first | exact HB.out | apply below_alloc | apply pw_below_drewN | apply below_drew1) | exact HB.out)) hb); clear HB; have HB := n0_; clear n0_; (try clear hb); (try clear hb2); (try clear hk); (try clear hi)) | (go_at_call 38; (with_reducible refine (ucs_May.calls (wrap64 ((wrap64 (65536 * (wrap64 (1 + (wrap64 (Int.tmod a0 16)))))) + (wrap64 (a1)))) t206 _ A39.out).mono ?_); rintro e w48 ⟨rfl, hb⟩; have n0_ := Aside0.mk (below_step (by repeat (first | (with_reducible first | exact HB.out | apply below_alloc | apply pw_below_drewN | apply below_drew1) | exact HB.out)) hb); clear HB; have HB := n0_; clear n0_; (try clear hb); (try clear hb2); (try clear hk); (try clear hi)) | (go_at_call 38; (with_reducible refine (ucs_May.calls (Int.tmod (wrap64 (a1)) 128) false _ A41.out).mono ?_); rintro e w49 ⟨rfl, hb⟩; have n0_ := Aside0.mk (below_step (by repeat (first | (with_reducible first | exact HB.out | apply below_alloc | apply pw_below_drewN | apply below_drew1) | exact HB.out)) hb); clear HB; have HB := n0_; clear n0_; (try clear hb); (try clear hb2); (try clear hk); (try clear hi)) | (go_at_call 38; (with_reducible refine (ucs_May.calls (wrap64 (-(wrap64 (a1)))) t208 _ A46.out).mono ?_); rintro e w50 ⟨rfl, hb⟩; have n0_ := Aside0.mk (below_step (by repeat (first | (with_reducible first | exact HB.out | apply below_alloc | apply pw_below_drewN | apply below_drew1) | exact HB.out)) hb); clear HB; have HB := n0_; clear n0_; (try clear hb); (try clear hb2); (try clear hk); (try clear hi)))
          go_ret
          exact ⟨by first | rfl | (simp [errW_none, errW_some] <;> rfl) | (simp [*, errW_none, errW_some] <;> rfl), by repeat (first | (with_reducible first | exact HB.out | apply below_alloc | apply pw_below_drewN | apply below_drew1) | exact HB.out)⟩
      · rw [if_neg c40] at H
        have c40b0 : (t206 == false) = false := by simpa using c40
        (try (have c40b1 : decide (t206 = false) = false := by simpa using c40))
        (try (have c40b2 : (t206 == false) = false := by simpa using c40))
        (try (have c40b3 : ¬ (t206 = false) := by simpa using c40))
        clear c40
        obtain rfl := Option.some.inj H
        go_enter Try.func13, Try.ntmps13
        go_wp2_with (first | ((with_reducible refine gate_callee (f := 35) rfl ?_); refine goesL_ (some 9) rfl rfl Try.func35 (by kernel_rfl) rfl #[] rfl (by (try simp only [List.map_toArray, List.map_cons, List.map_nil]); first | done | rfl | (simp only [List.length_drop, List.length_take]; rfl)) ?_; (with_reducible refine (phalaropelaw04_awake.calls k  true _ A3.out).mono ?_); rintro e w51 ⟨rfl, hb⟩; refine ⟨_, rfl, ?_⟩; have n0_ := Aside0.mk (below_step (by repeat (first | (with_reducible first | exact HB.out | apply below_alloc | apply pw_below_drewN | apply below_drew1) | exact HB.out)) hb); clear HB; have HB := n0_; clear n0_; (try clear hb); (try clear hb2); (try clear hk); (try clear hi)) | (go_at_call 38; (with_reducible refine (ucs_May.calls (wrap64 ((wrap64 (65536 * (wrap64 (1 + (wrap64 (Int.tmod a0 16)))))) + (wrap64 (a1)))) t206 _ A39.out).mono ?_); rintro e w52 ⟨rfl, hb⟩; have n0_ := Aside0.mk (below_step (by repeat (first | (with_reducible first | exact HB.out | apply below_alloc | apply pw_below_drewN | apply below_drew1) | exact HB.out)) hb); clear HB; have HB := n0_; clear n0_; (try clear hb); (try clear hb2); (try clear hk); (try clear hi)))
        go_ret
        exact ⟨by first | rfl | (simp [errW_none, errW_some] <;> rfl) | (simp [*, errW_none, errW_some] <;> rfl), by repeat (first | (with_reducible first | exact HB.out | apply below_alloc | apply pw_below_drewN | apply below_drew1) | exact HB.out)⟩
    · replace c38 := Bool.eq_false_iff.mpr c38
      subst c38
      have H1 : (some false) = some r := by rw [if_neg (show ¬ (false = true) by decide)] at H; exact H
      clear H
      have H := H1
      clear H1
      obtain rfl := Option.some.inj H
      go_enter Try.func13, Try.ntmps13
      go_wp2_with (first | ((with_reducible refine gate_callee (f := 35) rfl ?_); refine goesL_ (some 9) rfl rfl Try.func35 (by kernel_rfl) rfl #[] rfl (by (try simp only [List.map_toArray, List.map_cons, List.map_nil]); first | done | rfl | (simp only [List.length_drop, List.length_take]; rfl)) ?_; (with_reducible refine (phalaropelaw04_awake.calls k  false _ A3.out).mono ?_); rintro e w53 ⟨rfl, hb⟩; refine ⟨_, rfl, ?_⟩; have n0_ := Aside0.mk (below_step (by repeat (first | (with_reducible first | exact HB.out | apply below_alloc | apply pw_below_drewN | apply below_drew1) | exact HB.out)) hb); clear HB; have HB := n0_; clear n0_; (try clear hb); (try clear hb2); (try clear hk); (try clear hi)))
      go_ret
      exact ⟨by first | rfl | (simp [errW_none, errW_some] <;> rfl) | (simp [*, errW_none, errW_some] <;> rfl), by repeat (first | (with_reducible first | exact HB.out | apply below_alloc | apply pw_below_drewN | apply below_drew1) | exact HB.out)⟩

/-- THE ONE PURE STATEMENT of phalaropelaw04_UcsPlanes: yours. -/
def phalaropelaw04_UcsPlanes.Pure : Prop := ∀ (a0 : Int) (a1 : Int), (Lit.int .u8 a0).wf = true → (Lit.int .u16 a1).wf = true → ∃ k, phalaropelaw04_UcsPlanes.f k a0 a1 = some true
theorem phalaropelaw04_UcsPlanes.walk (P : phalaropelaw04_UcsPlanes.Pure) (a0 : Int) (a1 : Int) (w : World) (w0 : (Lit.int .u8 a0).wf = true) (w1 : (Lit.int .u16 a1).wf = true) :
    Calls Try.prog 13 #[.int .u8 a0, .int .u16 a1] w fun e w' => e = .returned (.bool true) ∧ Below w.heap.size w w' := by
  obtain ⟨k, h⟩ := P a0 a1 w0 w1
  refine (phalaropelaw04_UcsPlanes.calls k a0 a1 true w h).mono ?_
  rintro e w' ⟨rfl, hd⟩
  exact ⟨rfl, hd⟩

end Go.Proofs.Ytjjmfmlgemdjkaa.PUcs
