-- PRINTED by print.py (a twelfth state) out of the translation. Not trusted: Lean checks it.
import Derived.Test.YtjjmfmlgemdjkaaPUcsx0
import Derived.Test.YtjjmfmlgemdjkaaPUcsx1
namespace Go.Proofs.Ytjjmfmlgemdjkaa.PUcs
open Go.RowKit Go.Proofs.YtjjmfmlgemdjkaaW.PrintWords Go.Proofs.YtjjmfmlgemdjkaaW.PrintLast Go.Proofs.YtjjmfmlgemdjkaaW.PrintMore
attribute [local go_sem] max2_int min2_int max_two min_two max_three min_three max_four min_four   -- for this text's walks alone
set_option linter.unusedVariables false
set_option linter.unusedSimpArgs false

/-! ### phalaropelaw04_UcsEnds: function 14 -/
def phalaropelaw04_UcsEnds.f (k : Nat) (a0 : Int) : Option (Bool) := (phalaropelaw04_awake.f k).bind fun t209 => (if a0 = 55295 then (if t209 = true then ((ucs_May.f a0).bind fun t210 => (if t210 = true then ((ucs_May.f (wrap64 (a0 + 1))).bind fun t211 => (if ((!t211) == true) = true then ((ucs_May.f a0).bind fun t212 => (if t212 = true then (some (!(decide (a0 < 160)))) else (some (!false)))) else (some false))) else (if (false == true) = true then ((ucs_May.f a0).bind fun t213 => (if t213 = true then (some (!(decide (a0 < 160)))) else (some (!false)))) else (some false)))) else (some false)) else (if a0 = 64975 then (if t209 = true then ((ucs_May.f a0).bind fun t214 => (if t214 = true then ((ucs_May.f (wrap64 (a0 + 1))).bind fun t215 => (if ((!t215) == true) = true then ((ucs_May.f a0).bind fun t216 => (if t216 = true then (some (!(decide (a0 < 160)))) else (some (!false)))) else (some false))) else (if (false == true) = true then ((ucs_May.f a0).bind fun t217 => (if t217 = true then (some (!(decide (a0 < 160)))) else (some (!false)))) else (some false)))) else (some false)) else (if a0 = 65519 then (if t209 = true then ((ucs_May.f a0).bind fun t218 => (if t218 = true then ((ucs_May.f (wrap64 (a0 + 1))).bind fun t219 => (if ((!t219) == true) = true then ((ucs_May.f a0).bind fun t220 => (if t220 = true then (some (!(decide (a0 < 160)))) else (some (!false)))) else (some false))) else (if (false == true) = true then ((ucs_May.f a0).bind fun t221 => (if t221 = true then (some (!(decide (a0 < 160)))) else (some (!false)))) else (some false)))) else (some false)) else (if a0 ≥ 65536 then (if a0 ≤ 1114109 then (if t209 = true then ((ucs_May.f a0).bind fun t222 => (if t222 = true then ((ucs_May.f (wrap64 (a0 + 1))).bind fun t223 => (if ((!t223) == ((Int.tmod a0 65536) == 65533)) = true then ((ucs_May.f a0).bind fun t224 => (if t224 = true then (some (!(decide (a0 < 160)))) else (some (!false)))) else (some false))) else (if (false == ((Int.tmod a0 65536) == 65533)) = true then ((ucs_May.f a0).bind fun t225 => (if t225 = true then (some (!(decide (a0 < 160)))) else (some (!false)))) else (some false)))) else (some false)) else (if t209 = true then ((ucs_May.f a0).bind fun t226 => (if t226 = true then ((ucs_May.f (wrap64 (a0 + 1))).bind fun t227 => (if ((!t227) == false) = true then ((ucs_May.f a0).bind fun t228 => (if t228 = true then (some (!(decide (a0 < 160)))) else (some (!false)))) else (some false))) else (if (false == false) = true then ((ucs_May.f a0).bind fun t229 => (if t229 = true then (some (!(decide (a0 < 160)))) else (some (!false)))) else (some false)))) else (some false))) else (if t209 = true then ((ucs_May.f a0).bind fun t230 => (if t230 = true then ((ucs_May.f (wrap64 (a0 + 1))).bind fun t231 => (if ((!t231) == false) = true then ((ucs_May.f a0).bind fun t232 => (if t232 = true then (some (!(decide (a0 < 160)))) else (some (!false)))) else (some false))) else (if (false == false) = true then ((ucs_May.f a0).bind fun t233 => (if t233 = true then (some (!(decide (a0 < 160)))) else (some (!false)))) else (some false)))) else (some false))))))
theorem phalaropelaw04_UcsEnds.mono : ∀ a0 k, LeO (phalaropelaw04_UcsEnds.f k a0) (phalaropelaw04_UcsEnds.f (k + 1) a0) := by
  intro a0 k
  unfold phalaropelaw04_UcsEnds.f
  repeat' first
      | (with_reducible exact phalaropelaw04_awake.mono _)
      | (with_reducible exact LeO.refl _)
      | (with_reducible exact LeO.none _)
      | (with_reducible refine LeO.ite ?_ ?_)
      | (with_reducible refine LeO.bind ?_ (fun _ => ?_))
      | exact phalaropelaw04_awake.mono _
      | exact LeO.none _
      | refine LeO.ite ?_ ?_
      | refine LeO.bind ?_ (fun _ => ?_)
set_option maxHeartbeats 8000000 in
set_option maxRecDepth 100000 in
theorem phalaropelaw04_UcsEnds.calls (k : Nat) (a0 : Int) (r : Bool) (w : World) (h : phalaropelaw04_UcsEnds.f k a0 = some r) :
    Calls Try.prog 14 #[.int .i64 a0] w fun e w' => e = .returned (.bool r) ∧ Below w.heap.size w w' := by
  have HB := Aside0.mk (Below.refl w.heap.size w)
  have H : ((phalaropelaw04_awake.f k).bind fun t209 => (if a0 = 55295 then (if t209 = true then ((ucs_May.f a0).bind fun t210 => (if t210 = true then ((ucs_May.f (wrap64 (a0 + 1))).bind fun t211 => (if ((!t211) == true) = true then ((ucs_May.f a0).bind fun t212 => (if t212 = true then (some (!(decide (a0 < 160)))) else (some (!false)))) else (some false))) else (if (false == true) = true then ((ucs_May.f a0).bind fun t213 => (if t213 = true then (some (!(decide (a0 < 160)))) else (some (!false)))) else (some false)))) else (some false)) else (if a0 = 64975 then (if t209 = true then ((ucs_May.f a0).bind fun t214 => (if t214 = true then ((ucs_May.f (wrap64 (a0 + 1))).bind fun t215 => (if ((!t215) == true) = true then ((ucs_May.f a0).bind fun t216 => (if t216 = true then (some (!(decide (a0 < 160)))) else (some (!false)))) else (some false))) else (if (false == true) = true then ((ucs_May.f a0).bind fun t217 => (if t217 = true then (some (!(decide (a0 < 160)))) else (some (!false)))) else (some false)))) else (some false)) else (if a0 = 65519 then (if t209 = true then ((ucs_May.f a0).bind fun t218 => (if t218 = true then ((ucs_May.f (wrap64 (a0 + 1))).bind fun t219 => (if ((!t219) == true) = true then ((ucs_May.f a0).bind fun t220 => (if t220 = true then (some (!(decide (a0 < 160)))) else (some (!false)))) else (some false))) else (if (false == true) = true then ((ucs_May.f a0).bind fun t221 => (if t221 = true then (some (!(decide (a0 < 160)))) else (some (!false)))) else (some false)))) else (some false)) else (if a0 ≥ 65536 then (if a0 ≤ 1114109 then (if t209 = true then ((ucs_May.f a0).bind fun t222 => (if t222 = true then ((ucs_May.f (wrap64 (a0 + 1))).bind fun t223 => (if ((!t223) == ((Int.tmod a0 65536) == 65533)) = true then ((ucs_May.f a0).bind fun t224 => (if t224 = true then (some (!(decide (a0 < 160)))) else (some (!false)))) else (some false))) else (if (false == ((Int.tmod a0 65536) == 65533)) = true then ((ucs_May.f a0).bind fun t225 => (if t225 = true then (some (!(decide (a0 < 160)))) else (some (!false)))) else (some false)))) else (some false)) else (if t209 = true then ((ucs_May.f a0).bind fun t226 => (if t226 = true then ((ucs_May.f (wrap64 (a0 + 1))).bind fun t227 => (if ((!t227) == false) = true then ((ucs_May.f a0).bind fun t228 => (if t228 = true then (some (!(decide (a0 < 160)))) else (some (!false)))) else (some false))) else (if (false == false) = true then ((ucs_May.f a0).bind fun t229 => (if t229 = true then (some (!(decide (a0 < 160)))) else (some (!false)))) else (some false)))) else (some false))) else (if t209 = true then ((ucs_May.f a0).bind fun t230 => (if t230 = true then ((ucs_May.f (wrap64 (a0 + 1))).bind fun t231 => (if ((!t231) == false) = true then ((ucs_May.f a0).bind fun t232 => (if t232 = true then (some (!(decide (a0 < 160)))) else (some (!false)))) else (some false))) else (if (false == false) = true then ((ucs_May.f a0).bind fun t233 => (if t233 = true then (some (!(decide (a0 < 160)))) else (some (!false)))) else (some false)))) else (some false))))))) = some r := h
  clear h
  replace H := Option.bind_eq_some_iff.mp H
  obtain ⟨t209, A20, H⟩ := H
  replace H : (if a0 = 55295 then (if t209 = true then ((ucs_May.f a0).bind fun t210 => (if t210 = true then ((ucs_May.f (wrap64 (a0 + 1))).bind fun t211 => (if ((!t211) == true) = true then ((ucs_May.f a0).bind fun t212 => (if t212 = true then (some (!(decide (a0 < 160)))) else (some (!false)))) else (some false))) else (if (false == true) = true then ((ucs_May.f a0).bind fun t213 => (if t213 = true then (some (!(decide (a0 < 160)))) else (some (!false)))) else (some false)))) else (some false)) else (if a0 = 64975 then (if t209 = true then ((ucs_May.f a0).bind fun t214 => (if t214 = true then ((ucs_May.f (wrap64 (a0 + 1))).bind fun t215 => (if ((!t215) == true) = true then ((ucs_May.f a0).bind fun t216 => (if t216 = true then (some (!(decide (a0 < 160)))) else (some (!false)))) else (some false))) else (if (false == true) = true then ((ucs_May.f a0).bind fun t217 => (if t217 = true then (some (!(decide (a0 < 160)))) else (some (!false)))) else (some false)))) else (some false)) else (if a0 = 65519 then (if t209 = true then ((ucs_May.f a0).bind fun t218 => (if t218 = true then ((ucs_May.f (wrap64 (a0 + 1))).bind fun t219 => (if ((!t219) == true) = true then ((ucs_May.f a0).bind fun t220 => (if t220 = true then (some (!(decide (a0 < 160)))) else (some (!false)))) else (some false))) else (if (false == true) = true then ((ucs_May.f a0).bind fun t221 => (if t221 = true then (some (!(decide (a0 < 160)))) else (some (!false)))) else (some false)))) else (some false)) else (if a0 ≥ 65536 then (if a0 ≤ 1114109 then (if t209 = true then ((ucs_May.f a0).bind fun t222 => (if t222 = true then ((ucs_May.f (wrap64 (a0 + 1))).bind fun t223 => (if ((!t223) == ((Int.tmod a0 65536) == 65533)) = true then ((ucs_May.f a0).bind fun t224 => (if t224 = true then (some (!(decide (a0 < 160)))) else (some (!false)))) else (some false))) else (if (false == ((Int.tmod a0 65536) == 65533)) = true then ((ucs_May.f a0).bind fun t225 => (if t225 = true then (some (!(decide (a0 < 160)))) else (some (!false)))) else (some false)))) else (some false)) else (if t209 = true then ((ucs_May.f a0).bind fun t226 => (if t226 = true then ((ucs_May.f (wrap64 (a0 + 1))).bind fun t227 => (if ((!t227) == false) = true then ((ucs_May.f a0).bind fun t228 => (if t228 = true then (some (!(decide (a0 < 160)))) else (some (!false)))) else (some false))) else (if (false == false) = true then ((ucs_May.f a0).bind fun t229 => (if t229 = true then (some (!(decide (a0 < 160)))) else (some (!false)))) else (some false)))) else (some false))) else (if t209 = true then ((ucs_May.f a0).bind fun t230 => (if t230 = true then ((ucs_May.f (wrap64 (a0 + 1))).bind fun t231 => (if ((!t231) == false) = true then ((ucs_May.f a0).bind fun t232 => (if t232 = true then (some (!(decide (a0 < 160)))) else (some (!false)))) else (some false))) else (if (false == false) = true then ((ucs_May.f a0).bind fun t233 => (if t233 = true then (some (!(decide (a0 < 160)))) else (some (!false)))) else (some false)))) else (some false)))))) = some r := H
  have A2 := Aside0.mk A20
  clear A20
  by_cases c3 : a0 = 55295
  · rw [if_pos c3] at H
    have c3b0 : (a0 == 55295) = true := beq_iff_eq.mpr c3
    have c3b1 : (a0 != 55295) = false := bne_eq_false_iff_eq.mpr c3
    clear c3
    by_cases c4 : t209 = true
    · subst c4
      have H1 : ((ucs_May.f a0).bind fun t210 => (if t210 = true then ((ucs_May.f (wrap64 (a0 + 1))).bind fun t211 => (if ((!t211) == true) = true then ((ucs_May.f a0).bind fun t212 => (if t212 = true then (some (!(decide (a0 < 160)))) else (some (!false)))) else (some false))) else (if (false == true) = true then ((ucs_May.f a0).bind fun t213 => (if t213 = true then (some (!(decide (a0 < 160)))) else (some (!false)))) else (some false)))) = some r := by rw [if_pos rfl] at H; exact H
      clear H
      have H := H1
      clear H1
      replace H := Option.bind_eq_some_iff.mp H
      obtain ⟨t210, A50, H⟩ := H
      replace H : (if t210 = true then ((ucs_May.f (wrap64 (a0 + 1))).bind fun t211 => (if ((!t211) == true) = true then ((ucs_May.f a0).bind fun t212 => (if t212 = true then (some (!(decide (a0 < 160)))) else (some (!false)))) else (some false))) else (if (false == true) = true then ((ucs_May.f a0).bind fun t213 => (if t213 = true then (some (!(decide (a0 < 160)))) else (some (!false)))) else (some false))) = some r := H
      have A5 := Aside0.mk A50
      clear A50
      by_cases c6 : t210 = true
      · subst c6
        have H1 : ((ucs_May.f (wrap64 (a0 + 1))).bind fun t211 => (if ((!t211) == true) = true then ((ucs_May.f a0).bind fun t212 => (if t212 = true then (some (!(decide (a0 < 160)))) else (some (!false)))) else (some false))) = some r := by rw [if_pos rfl] at H; exact H
        clear H
        have H := H1
        clear H1
        replace H := Option.bind_eq_some_iff.mp H
        obtain ⟨t211, A70, H⟩ := H
        replace H : (if ((!t211) == true) = true then ((ucs_May.f a0).bind fun t212 => (if t212 = true then (some (!(decide (a0 < 160)))) else (some (!false)))) else (some false)) = some r := H
        have A7 := Aside0.mk A70
        clear A70
        by_cases c8 : ((!t211) == true) = true
        · rw [if_pos c8] at H
          have c8b0 : ((!t211) == true) = true := c8
          (try (have c8b1 : decide ((!t211) = true) = true := by simpa using c8))
          (try (have c8b2 : ((!t211) == true) = true := by simpa using c8))
          clear c8
          replace H := Option.bind_eq_some_iff.mp H
          obtain ⟨t212, A90, H⟩ := H
          replace H : (if t212 = true then (some (!(decide (a0 < 160)))) else (some (!false))) = some r := H
          have A9 := Aside0.mk A90
          clear A90
          by_cases c10 : t212 = true
          · subst c10
            have H1 : (some (!(decide (a0 < 160)))) = some r := by rw [if_pos rfl] at H; exact H
            clear H
            have H := H1
            clear H1
            obtain rfl := Option.some.inj H
            go_enter Try.func14, Try.ntmps14
            go_wp2_with (first | ((with_reducible refine gate_callee (f := 35) rfl ?_); refine goesL_ (some 5) rfl rfl Try.func35 (by kernel_rfl) rfl #[] rfl (by (try simp only [List.map_toArray, List.map_cons, List.map_nil]); first | done | rfl | (simp only [List.length_drop, List.length_take]; rfl)) ?_; (with_reducible refine (phalaropelaw04_awake.calls k  true _ A2.out).mono ?_); rintro e w11 ⟨rfl, hb⟩; refine ⟨_, rfl, ?_⟩; have n0_ := Aside0.mk (below_step (by repeat (first | (with_reducible first | exact HB.out | apply below_alloc | apply pw_below_drewN | apply below_drew1) | exact HB.out)) hb); clear HB; have HB := n0_; clear n0_; (try clear hb); (try clear hb2); (try clear hk); (try clear hi)) | (go_at_call 38; (with_reducible refine (ucs_May.calls a0 true _ A5.out).mono ?_); rintro e w12 ⟨rfl, hb⟩; have n0_ := Aside0.mk (below_step (by repeat (first | (with_reducible first | exact HB.out | apply below_alloc | apply pw_below_drewN | apply below_drew1) | exact HB.out)) hb); clear HB; have HB := n0_; clear n0_; (try clear hb); (try clear hb2); (try clear hk); (try clear hi)) | (go_at_call 38; (with_reducible refine (ucs_May.calls (wrap64 (a0 + 1)) t211 _ A7.out).mono ?_); rintro e w13 ⟨rfl, hb⟩; have n0_ := Aside0.mk (below_step (by repeat (first | (with_reducible first | exact HB.out | apply below_alloc | apply pw_below_drewN | apply below_drew1) | exact HB.out)) hb); clear HB; have HB := n0_; clear n0_; (try clear hb); (try clear hb2); (try clear hk); (try clear hi)) | (go_at_call 38; (with_reducible refine (ucs_May.calls a0 true _ A9.out).mono ?_); rintro e w14 ⟨rfl, hb⟩; have n0_ := Aside0.mk (below_step (by repeat (first | (with_reducible first | exact HB.out | apply below_alloc | apply pw_below_drewN | apply below_drew1) | exact HB.out)) hb); clear HB; have HB := n0_; clear n0_; (try clear hb); (try clear hb2); (try clear hk); (try clear hi)))
            go_ret
            first | exact absurd (show some true = some false from A2.out.symm.trans A5.out) (by decide) | exact absurd (show some false = some true from A2.out.symm.trans A5.out) (by decide) | exact absurd (show some true = some false from A2.out.symm.trans A7.out) (by decide) | exact absurd (show some false = some true from A2.out.symm.trans A7.out) (by decide) | exact absurd (show some true = some false from A2.out.symm.trans A9.out) (by decide) | exact absurd (show some false = some true from A2.out.symm.trans A9.out) (by decide) | exact absurd (show some true = some false from A5.out.symm.trans A7.out) (by decide) | exact absurd (show some false = some true from A5.out.symm.trans A7.out) (by decide) | exact absurd (show some true = some false from A5.out.symm.trans A9.out) (by decide) | exact absurd (show some false = some true from A5.out.symm.trans A9.out) (by decide) | exact absurd (show some true = some false from A7.out.symm.trans A9.out) (by decide) | exact absurd (show some false = some true from A7.out.symm.trans A9.out) (by decide) | exact ⟨by first | rfl | (simp [errW_none, errW_some] <;> rfl) | (simp [*, errW_none, errW_some] <;> rfl), by repeat (first | (with_reducible first | exact HB.out | apply below_alloc | apply pw_below_drewN | apply below_drew1) | exact HB.out)⟩
          · replace c10 := Bool.eq_false_iff.mpr c10
            subst c10
            have H1 : (some (!false)) = some r := by rw [if_neg (show ¬ (false = true) by decide)] at H; exact H
            clear H
            have H := H1
            clear H1
            obtain rfl := Option.some.inj H
            go_enter Try.func14, Try.ntmps14
            go_wp2_with (first | ((with_reducible refine gate_callee (f := 35) rfl ?_); refine goesL_ (some 5) rfl rfl Try.func35 (by kernel_rfl) rfl #[] rfl (by (try simp only [List.map_toArray, List.map_cons, List.map_nil]); first | done | rfl | (simp only [List.length_drop, List.length_take]; rfl)) ?_; (with_reducible refine (phalaropelaw04_awake.calls k  true _ A2.out).mono ?_); rintro e w15 ⟨rfl, hb⟩; refine ⟨_, rfl, ?_⟩; have n0_ := Aside0.mk (below_step (by repeat (first | (with_reducible first | exact HB.out | apply below_alloc | apply pw_below_drewN | apply below_drew1) | exact HB.out)) hb); clear HB; have HB := n0_; clear n0_; (try clear hb); (try clear hb2); (try clear hk); (try clear hi)) | (go_at_call 38; (with_reducible refine (ucs_May.calls a0 true _ A5.out).mono ?_); rintro e w16 ⟨rfl, hb⟩; have n0_ := Aside0.mk (below_step (by repeat (first | (with_reducible first | exact HB.out | apply below_alloc | apply pw_below_drewN | apply below_drew1) | exact HB.out)) hb); clear HB; have HB := n0_; clear n0_; (try clear hb); (try clear hb2); (try clear hk); (try clear hi)) | (go_at_call 38; (with_reducible refine (ucs_May.calls (wrap64 (a0 + 1)) t211 _ A7.out).mono ?_); rintro e w17 ⟨rfl, hb⟩; have n0_ := Aside0.mk (below_step (by repeat (first | (with_reducible first | exact HB.out | apply below_alloc | apply pw_below_drewN | apply below_drew1) | exact HB.out)) hb); clear HB; have HB := n0_; clear n0_; (try clear hb); (try clear hb2); (try clear hk); (try clear hi)) | (go_at_call 38; (with_reducible refine (ucs_May.calls a0 false _ A9.out).mono ?_); rintro e w18 ⟨rfl, hb⟩; have n0_ := Aside0.mk (below_step (by repeat (first | (with_reducible first | exact HB.out | apply below_alloc | apply pw_below_drewN | apply below_drew1) | exact HB.out)) hb); clear HB; have HB := n0_; clear n0_; (try clear hb); (try clear hb2); (try clear hk); (try clear hi)))
            go_ret
            first | exact absurd (show some true = some false from A2.out.symm.trans A5.out) (by decide) | exact absurd (show some false = some true from A2.out.symm.trans A5.out) (by decide) | exact absurd (show some true = some false from A2.out.symm.trans A7.out) (by decide) | exact absurd (show some false = some true from A2.out.symm.trans A7.out) (by decide) | exact absurd (show some true = some false from A2.out.symm.trans A9.out) (by decide) | exact absurd (show some false = some true from A2.out.symm.trans A9.out) (by decide) | exact absurd (show some true = some false from A5.out.symm.trans A7.out) (by decide) | exact absurd (show some false = some true from A5.out.symm.trans A7.out) (by decide) | exact absurd (show some true = some false from A5.out.symm.trans A9.out) (by decide) | exact absurd (show some false = some true from A5.out.symm.trans A9.out) (by decide) | exact absurd (show some true = some false from A7.out.symm.trans A9.out) (by decide) | exact absurd (show some false = some true from A7.out.symm.trans A9.out) (by decide) | exact ⟨by first | rfl | (simp [errW_none, errW_some] <;> rfl) | (simp [*, errW_none, errW_some] <;> rfl), by repeat (first | (with_reducible first | exact HB.out | apply below_alloc | apply pw_below_drewN | apply below_drew1) | exact HB.out)⟩
        · rw [if_neg c8] at H
          have c8b0 : ((!t211) == true) = false := by simpa using c8
          (try (have c8b1 : decide ((!t211) = true) = false := by simpa using c8))
          (try (have c8b2 : ((!t211) == true) = false := by simpa using c8))
          (try (have c8b3 : ¬ ((!t211) = true) := by simpa using c8))
          clear c8
          obtain rfl := Option.some.inj H
          go_enter Try.func14, Try.ntmps14
          go_wp2_with (first | ((with_reducible refine gate_callee (f := 35) rfl ?_); refine goesL_ (some 5) rfl rfl Try.func35 (by kernel_rfl) rfl #[] rfl (by (try simp only [List.map_toArray, List.map_cons, List.map_nil]); first | done | rfl | (simp only [List.length_drop, List.length_take]; rfl)) ?_; (with_reducible refine (phalaropelaw04_awake.calls k  true _ A2.out).mono ?_); rintro e w19 ⟨rfl, hb⟩; refine ⟨_, rfl, ?_⟩; have n0_ := Aside0.mk (below_step (by repeat (first | (with_reducible first | exact HB.out | apply below_alloc | apply pw_below_drewN | apply below_drew1) | exact HB.out)) hb); clear HB; have HB := n0_; clear n0_; (try clear hb); (try clear hb2); (try clear hk); (try clear hi)) | (go_at_call 38; (with_reducible refine (ucs_May.calls a0 true _ A5.out).mono ?_); rintro e w20 ⟨rfl, hb⟩; have n0_ := Aside0.mk (below_step (by repeat (first | (with_reducible first | exact HB.out | apply below_alloc | apply pw_below_drewN | apply below_drew1) | exact HB.out)) hb); clear HB; have HB := n0_; clear n0_; (try clear hb); (try clear hb2); (try clear hk); (try clear hi)) | (go_at_call 38; (with_reducible refine (ucs_May.calls (wrap64 (a0 + 1)) t211 _ A7.out).mono ?_); rintro e w21 ⟨rfl, hb⟩; have n0_ := Aside0.mk (below_step (by repeat (first | (with_reducible first | exact HB.out | apply below_alloc | apply pw_below_drewN | apply below_drew1) | exact HB.out)) hb); clear HB; have HB := n0_; clear n0_; (try clear hb); (try clear hb2); (try clear hk); (try clear hi)))
          go_ret
          first | exact absurd (show some true = some false from A2.out.symm.trans A5.out) (by decide) | exact absurd (show some false = some true from A2.out.symm.trans A5.out) (by decide) | exact absurd (show some true = some false from A2.out.symm.trans A7.out) (by decide) | exact absurd (show some false = some true from A2.out.symm.trans A7.out) (by decide) | exact absurd (show some true = some false from A2.out.symm.trans A9.out) (by decide) | exact absurd (show some false = some true from A2.out.symm.trans A9.out) (by decide) | exact absurd (show some true = some false from A5.out.symm.trans A7.out) (by decide) | exact absurd (show some false = some true from A5.out.symm.trans A7.out) (by decide) | exact absurd (show some true = some false from A5.out.symm.trans A9.out) (by decide) | exact absurd (show some false = some true from A5.out.symm.trans A9.out) (by decide) | exact absurd (show some true = some false from A7.out.symm.trans A9.out) (by decide) | exact absurd (show some false = some true from A7.out.symm.trans A9.out) (by decide) | exact ⟨by first | rfl | (simp [errW_none, errW_some] <;> rfl) | (simp [*, errW_none, errW_some] <;> rfl), by repeat (first | (with_reducible first | exact HB.out | apply below_alloc | apply pw_below_drewN | apply below_drew1) | exact HB.out)⟩
      · replace c6 := Bool.eq_false_iff.mpr c6
        subst c6
        have H1 : (if (false == true) = true then ((ucs_May.f a0).bind fun t213 => (if t213 = true then (some (!(decide (a0 < 160)))) else (some (!false)))) else (some false)) = some r := by rw [if_neg (show ¬ (false = true) by decide)] at H; exact H
        clear H
        have H := H1
        clear H1
        by_cases c22 : (false == true) = true
        · exact absurd c22 (by decide)
        · rw [if_neg c22] at H
          have c22b0 : (false == true) = false := by simp
          (try (have c22b1 : decide (false = true) = false := by simp))
          (try (have c22b2 : (false == true) = false := by simp))
          (try (have c22b3 : ¬ (false = true) := by simp))
          clear c22
          obtain rfl := Option.some.inj H
          go_enter Try.func14, Try.ntmps14
          go_wp2_with (first | ((with_reducible refine gate_callee (f := 35) rfl ?_); refine goesL_ (some 5) rfl rfl Try.func35 (by kernel_rfl) rfl #[] rfl (by (try simp only [List.map_toArray, List.map_cons, List.map_nil]); first | done | rfl | (simp only [List.length_drop, List.length_take]; rfl)) ?_; (with_reducible refine (phalaropelaw04_awake.calls k  true _ A2.out).mono ?_); rintro e w31 ⟨rfl, hb⟩; refine ⟨_, rfl, ?_⟩; have n0_ := Aside0.mk (below_step (by repeat (first | (with_reducible first | exact HB.out | apply below_alloc | apply pw_below_drewN | apply below_drew1) | exact HB.out)) hb); clear HB; have HB := n0_; clear n0_; (try clear hb); (try clear hb2); (try clear hk); (try clear hi)) | (go_at_call 38; (with_reducible refine (ucs_May.calls a0 false _ A5.out).mono ?_); rintro e w32 ⟨rfl, hb⟩; have n0_ := Aside0.mk (below_step (by repeat (first | (with_reducible first | exact HB.out | apply below_alloc | apply pw_below_drewN | apply below_drew1) | exact HB.out)) hb); clear HB; have HB := n0_; clear n0_; (try clear hb); (try clear hb2); (try clear hk); (try clear hi)))
          go_ret
          first | exact absurd (show some true = some false from A2.out.symm.trans A5.out) (by decide) | exact absurd (show some false = some true from A2.out.symm.trans A5.out) (by decide) | exact absurd (show some true = some false from A2.out.symm.trans A7.out) (by decide) | exact absurd (show some false = some true from A2.out.symm.trans A7.out) (by decide) | exact absurd (show some true = some false from A5.out.symm.trans A7.out) (by decide) | exact absurd (show some false = some true from A5.out.symm.trans A7.out) (by decide) | exact ⟨by first | rfl | (simp [errW_none, errW_some] <;> rfl) | (simp [*, errW_none, errW_some] <;> rfl), by repeat (first | (with_reducible first | exact HB.out | apply below_alloc | apply pw_below_drewN | apply below_drew1) | exact HB.out)⟩
    · replace c4 := Bool.eq_false_iff.mpr c4
      subst c4
      have H1 : (some false) = some r := by rw [if_neg (show ¬ (false = true) by decide)] at H; exact H
      clear H
      have H := H1
      clear H1
      obtain rfl := Option.some.inj H
      go_enter Try.func14, Try.ntmps14
      go_wp2_with (first | ((with_reducible refine gate_callee (f := 35) rfl ?_); refine goesL_ (some 5) rfl rfl Try.func35 (by kernel_rfl) rfl #[] rfl (by (try simp only [List.map_toArray, List.map_cons, List.map_nil]); first | done | rfl | (simp only [List.length_drop, List.length_take]; rfl)) ?_; (with_reducible refine (phalaropelaw04_awake.calls k  false _ A2.out).mono ?_); rintro e w33 ⟨rfl, hb⟩; refine ⟨_, rfl, ?_⟩; have n0_ := Aside0.mk (below_step (by repeat (first | (with_reducible first | exact HB.out | apply below_alloc | apply pw_below_drewN | apply below_drew1) | exact HB.out)) hb); clear HB; have HB := n0_; clear n0_; (try clear hb); (try clear hb2); (try clear hk); (try clear hi)))
      go_ret
      first | exact absurd (show some true = some false from A2.out.symm.trans A5.out) (by decide) | exact absurd (show some false = some true from A2.out.symm.trans A5.out) (by decide) | exact ⟨by first | rfl | (simp [errW_none, errW_some] <;> rfl) | (simp [*, errW_none, errW_some] <;> rfl), by repeat (first | (with_reducible first | exact HB.out | apply below_alloc | apply pw_below_drewN | apply below_drew1) | exact HB.out)⟩
  · rw [if_neg c3] at H
    have c3b0 : (a0 == 55295) = false := beq_eq_false_iff_ne.mpr c3
    have c3b1 : (a0 != 55295) = true := bne_iff_ne.mpr c3
    by_cases c34 : a0 = 64975
    · rw [if_pos c34] at H
      have c34b0 : (a0 == 64975) = true := beq_iff_eq.mpr c34
      have c34b1 : (a0 != 64975) = false := bne_eq_false_iff_eq.mpr c34
      clear c34
      by_cases c35 : t209 = true
      · subst c35
        have H1 : ((ucs_May.f a0).bind fun t214 => (if t214 = true then ((ucs_May.f (wrap64 (a0 + 1))).bind fun t215 => (if ((!t215) == true) = true then ((ucs_May.f a0).bind fun t216 => (if t216 = true then (some (!(decide (a0 < 160)))) else (some (!false)))) else (some false))) else (if (false == true) = true then ((ucs_May.f a0).bind fun t217 => (if t217 = true then (some (!(decide (a0 < 160)))) else (some (!false)))) else (some false)))) = some r := by rw [if_pos rfl] at H; exact H
        clear H
        have H := H1
        clear H1
        replace H := Option.bind_eq_some_iff.mp H
        obtain ⟨t214, A360, H⟩ := H
        replace H : (if t214 = true then ((ucs_May.f (wrap64 (a0 + 1))).bind fun t215 => (if ((!t215) == true) = true then ((ucs_May.f a0).bind fun t216 => (if t216 = true then (some (!(decide (a0 < 160)))) else (some (!false)))) else (some false))) else (if (false == true) = true then ((ucs_May.f a0).bind fun t217 => (if t217 = true then (some (!(decide (a0 < 160)))) else (some (!false)))) else (some false))) = some r := H
        have A36 := Aside0.mk A360
        clear A360
        by_cases c37 : t214 = true
        · subst c37
          have H1 : ((ucs_May.f (wrap64 (a0 + 1))).bind fun t215 => (if ((!t215) == true) = true then ((ucs_May.f a0).bind fun t216 => (if t216 = true then (some (!(decide (a0 < 160)))) else (some (!false)))) else (some false))) = some r := by rw [if_pos rfl] at H; exact H
          clear H
          have H := H1
          clear H1
          replace H := Option.bind_eq_some_iff.mp H
          obtain ⟨t215, A380, H⟩ := H
          replace H : (if ((!t215) == true) = true then ((ucs_May.f a0).bind fun t216 => (if t216 = true then (some (!(decide (a0 < 160)))) else (some (!false)))) else (some false)) = some r := H
          have A38 := Aside0.mk A380
          clear A380
          by_cases c39 : ((!t215) == true) = true
          · rw [if_pos c39] at H
            have c39b0 : ((!t215) == true) = true := c39
            (try (have c39b1 : decide ((!t215) = true) = true := by simpa using c39))
            (try (have c39b2 : ((!t215) == true) = true := by simpa using c39))
            clear c39
            replace H := Option.bind_eq_some_iff.mp H
            obtain ⟨t216, A400, H⟩ := H
            replace H : (if t216 = true then (some (!(decide (a0 < 160)))) else (some (!false))) = some r := H
            have A40 := Aside0.mk A400
            clear A400
            by_cases c41 : t216 = true
            · subst c41
              have H1 : (some (!(decide (a0 < 160)))) = some r := by rw [if_pos rfl] at H; exact H
              clear H
              have H := H1
              clear H1
              obtain rfl := Option.some.inj H
              go_enter Try.func14, Try.ntmps14
              go_wp2_with (first | ((with_reducible refine gate_callee (f := 35) rfl ?_); refine goesL_ (some 5) rfl rfl Try.func35 (by kernel_rfl) rfl #[] rfl (by (try simp only [List.map_toArray, List.map_cons, List.map_nil]); first | done | rfl | (simp only [List.length_drop, List.length_take]; rfl)) ?_; (with_reducible refine (phalaropelaw04_awake.calls k  true _ A2.out).mono ?_); rintro e w42 ⟨rfl, hb⟩; refine ⟨_, rfl, ?_⟩; have n0_ := Aside0.mk (below_step (by repeat (first | (with_reducible first | exact HB.out | apply below_alloc | apply pw_below_drewN | apply below_drew1) | exact HB.out)) hb); clear HB; have HB := n0_; clear n0_; (try clear hb); (try clear hb2); (try clear hk); (try clear hi)) | (go_at_call 38; (with_reducible refine (ucs_May.calls a0 true _ A36.out).mono ?_); rintro e w43 ⟨rfl, hb⟩; have n0_ := Aside0.mk (below_step (by repeat (first | (with_reducible first | exact HB.out | apply below_alloc | apply pw_below_drewN | apply below_drew1) | exact HB.out)) hb); clear HB; have HB := n0_; clear n0_; (try clear hb); (try clear hb2); (try clear hk); (try clear hi)) | (go_at_call 38; (with_reducible refine (ucs_May.calls (wrap64 (a0 + 1)) t215 _ A38.out).mono ?_); rintro e w44 ⟨rfl, hb⟩; have n0_ := Aside0.mk (below_step (by repeat (first | (with_reducible first | exact HB.out | apply below_alloc | apply pw_below_drewN | apply below_drew1) | exact HB.out)) hb); clear HB; have HB := n0_; clear n0_; (try clear hb); (try clear hb2); (try clear hk); (try clear hi)) | (go_at_call 38; (with_reducible refine (ucs_May.calls a0 true _ A40.out).mono ?_); rintro e w45 ⟨rfl, hb⟩; have n0_ := Aside0.mk (below_step (by repeat (first | (with_reducible first | exact HB.out | apply below_alloc | apply pw_below_drewN | apply below_drew1) | exact HB.out)) hb); clear HB; have HB := n0_; clear n0_; (try clear hb); (try clear hb2); (try clear hk); (try clear hi)))
              go_ret
              first | exact absurd (show some true = some false from A2.out.symm.trans A36.out) (by decide) | exact absurd (show some false = some true from A2.out.symm.trans A36.out) (by decide) | exact absurd (show some true = some false from A2.out.symm.trans A38.out) (by decide) | exact absurd (show some false = some true from A2.out.symm.trans A38.out) (by decide) | exact absurd (show some true = some false from A2.out.symm.trans A40.out) (by decide) | exact absurd (show some false = some true from A2.out.symm.trans A40.out) (by decide) | exact absurd (show some true = some false from A36.out.symm.trans A38.out) (by decide) | exact absurd (show some false = some true from A36.out.symm.trans A38.out) (by decide) | exact absurd (show some true = some false from A36.out.symm.trans A40.out) (by decide) | exact absurd (show some false = some true from A36.out.symm.trans A40.out) (by decide) | exact absurd (show some true = some false from A38.out.symm.trans A40.out) (by decide) | exact absurd (show some false = some true from A38.out.symm.trans A40.out) (by decide) | exact ⟨by first | rfl | (simp [errW_none, errW_some] <;> rfl) | (simp [*, errW_none, errW_some] <;> rfl), by repeat (first | (with_reducible first | exact HB.out | apply below_alloc | apply pw_below_drewN | apply below_drew1) | exact HB.out)⟩
            · replace c41 := Bool.eq_false_iff.mpr c41
              subst c41
              have H1 : (some (!false)) = some r := by rw [if_neg (show ¬ (false = true) by decide)] at H; exact H
              clear H
              have H := H1
              clear H1
              obtain rfl := Option.some.inj H
              go_enter Try.func14, Try.ntmps14
              go_wp2_with (first | ((with_reducible refine gate_callee (f := 35) rfl ?_); refine goesL_ (some 5) rfl rfl Try.func35 (by kernel_rfl) rfl #[] rfl (by (try simp only [List.map_toArray, List.map_cons, List.map_nil]); first | done | rfl | (simp only [List.length_drop, List.length_take]; rfl)) ?_; (with_reducible refine (phalaropelaw04_awake.calls k  true _ A2.out).mono ?_); rintro e w46 ⟨rfl, hb⟩; refine ⟨_, rfl, ?_⟩; have n0_ := Aside0.mk (below_step (by repeat (first | (with_reducible first | exact HB.out | apply below_alloc | apply pw_below_drewN | apply below_drew1) | exact HB.out)) hb); clear HB; have HB := n0_; clear n0_; (try clear hb); (try clear hb2); (try clear hk); (try clear hi)) | (go_at_call 38; (with_reducible refine (ucs_May.calls a0 true _ A36.out).mono ?_); rintro e w47 ⟨rfl, hb⟩; have n0_ := Aside0.mk (below_step (by repeat (first | (with_reducible first | exact HB.out | apply below_alloc | apply pw_below_drewN | apply below_drew1) | exact HB.out)) hb); clear HB; have HB := n0_; clear n0_; (try clear hb); (try clear hb2); (try clear hk); (try clear hi)) | (go_at_call 38; (with_reducible refine (ucs_May.calls (wrap64 (a0 + 1)) t215 _ A38.out).mono ?_); rintro e w48 ⟨rfl, hb⟩; have n0_ := Aside0.mk (below_step (by repeat (first | (with_reducible first | exact HB.out | apply below_alloc | apply pw_below_drewN | apply below_drew1) | exact HB.out)) hb); clear HB; have HB := n0_; clear n0_; (try clear hb); (try clear hb2); (try clear hk); (try clear hi)) | (go_at_call 38; (with_reducible refine (ucs_May.calls a0 false _ A40.out).mono ?_); rintro e w49 ⟨rfl, hb⟩; have n0_ := Aside0.mk (below_step (by repeat (first | (with_reducible first | exact HB.out | apply below_alloc | apply pw_below_drewN | apply below_drew1) | exact HB.out)) hb); clear HB; have HB := n0_; clear n0_; (try clear hb); (try clear hb2); (try clear hk); (try clear hi)))
              go_ret
              first | exact absurd (show some true = some false from A2.out.symm.trans A36.out) (by decide) | exact absurd (show some false = some true from A2.out.symm.trans A36.out) (by decide) | exact absurd (show some true = some false from A2.out.symm.trans A38.out) (by decide) | exact absurd (show some false = some true from A2.out.symm.trans A38.out) (by decide) | exact absurd (show some true = some false from A2.out.symm.trans A40.out) (by decide) | exact absurd (show some false = some true from A2.out.symm.trans A40.out) (by decide) | exact absurd (show some true = some false from A36.out.symm.trans A38.out) (by decide) | exact absurd (show some false = some true from A36.out.symm.trans A38.out) (by decide) | exact absurd (show some true = some false from A36.out.symm.trans A40.out) (by decide) | exact absurd (show some false = some true from A36.out.symm.trans A40.out) (by decide) | exact absurd (show some true = some false from A38.out.symm.trans A40.out) (by decide) | exact absurd (show some false = some true from A38.out.symm.trans A40.out) (by decide) | exact ⟨by first | rfl | (simp [errW_none, errW_some] <;> rfl) | (simp [*, errW_none, errW_some] <;> rfl), by repeat (first | (with_reducible first | exact HB.out | apply below_alloc | apply pw_below_drewN | apply below_drew1) | exact HB.out)⟩
          · rw [if_neg c39] at H
            have c39b0 : ((!t215) == true) = false := by simpa using c39
            (try (have c39b1 : decide ((!t215) = true) = false := by simpa using c39))
            (try (have c39b2 : ((!t215) == true) = false := by simpa using c39))
            (try (have c39b3 : ¬ ((!t215) = true) := by simpa using c39))
            clear c39
            obtain rfl := Option.some.inj H
            go_enter Try.func14, Try.ntmps14
            go_wp2_with (first | ((with_reducible refine gate_callee (f := 35) rfl ?_); refine goesL_ (some 5) rfl rfl Try.func35 (by kernel_rfl) rfl #[] rfl (by (try simp only [List.map_toArray, List.map_cons, List.map_nil]); first | done | rfl | (simp only [List.length_drop, List.length_take]; rfl)) ?_; (with_reducible refine (phalaropelaw04_awake.calls k  true _ A2.out).mono ?_); rintro e w50 ⟨rfl, hb⟩; refine ⟨_, rfl, ?_⟩; have n0_ := Aside0.mk (below_step (by repeat (first | (with_reducible first | exact HB.out | apply below_alloc | apply pw_below_drewN | apply below_drew1) | exact HB.out)) hb); clear HB; have HB := n0_; clear n0_; (try clear hb); (try clear hb2); (try clear hk); (try clear hi)) | (go_at_call 38; (with_reducible refine (ucs_May.calls a0 true _ A36.out).mono ?_); rintro e w51 ⟨rfl, hb⟩; have n0_ := Aside0.mk (below_step (by repeat (first | (with_reducible first | exact HB.out | apply below_alloc | apply pw_below_drewN | apply below_drew1) | exact HB.out)) hb); clear HB; have HB := n0_; clear n0_; (try clear hb); (try clear hb2); (try clear hk); (try clear hi)) | (go_at_call 38; (with_reducible refine (ucs_May.calls (wrap64 (a0 + 1)) t215 _ A38.out).mono ?_); rintro e w52 ⟨rfl, hb⟩; have n0_ := Aside0.mk (below_step (by repeat (first | (with_reducible first | exact HB.out | apply below_alloc | apply pw_below_drewN | apply below_drew1) | exact HB.out)) hb); clear HB; have HB := n0_; clear n0_; (try clear hb); (try clear hb2); (try clear hk); (try clear hi)))
            go_ret
            first | exact absurd (show some true = some false from A2.out.symm.trans A36.out) (by decide) | exact absurd (show some false = some true from A2.out.symm.trans A36.out) (by decide) | exact absurd (show some true = some false from A2.out.symm.trans A38.out) (by decide) | exact absurd (show some false = some true from A2.out.symm.trans A38.out) (by decide) | exact absurd (show some true = some false from A2.out.symm.trans A40.out) (by decide) | exact absurd (show some false = some true from A2.out.symm.trans A40.out) (by decide) | exact absurd (show some true = some false from A36.out.symm.trans A38.out) (by decide) | exact absurd (show some false = some true from A36.out.symm.trans A38.out) (by decide) | exact absurd (show some true = some false from A36.out.symm.trans A40.out) (by decide) | exact absurd (show some false = some true from A36.out.symm.trans A40.out) (by decide) | exact absurd (show some true = some false from A38.out.symm.trans A40.out) (by decide) | exact absurd (show some false = some true from A38.out.symm.trans A40.out) (by decide) | exact ⟨by first | rfl | (simp [errW_none, errW_some] <;> rfl) | (simp [*, errW_none, errW_some] <;> rfl), by repeat (first | (with_reducible first | exact HB.out | apply below_alloc | apply pw_below_drewN | apply below_drew1) | exact HB.out)⟩
        · replace c37 := Bool.eq_false_iff.mpr c37
          subst c37
          have H1 : (if (false == true) = true then ((ucs_May.f a0).bind fun t217 => (if t217 = true then (some (!(decide (a0 < 160)))) else (some (!false)))) else (some false)) = some r := by rw [if_neg (show ¬ (false = true) by decide)] at H; exact H
          clear H
          have H := H1
          clear H1
          by_cases c53 : (false == true) = true
          · exact absurd c53 (by decide)
          · rw [if_neg c53] at H
            have c53b0 : (false == true) = false := by simp
            (try (have c53b1 : decide (false = true) = false := by simp))
            (try (have c53b2 : (false == true) = false := by simp))
            (try (have c53b3 : ¬ (false = true) := by simp))
            clear c53
            obtain rfl := Option.some.inj H
            go_enter Try.func14, Try.ntmps14
            go_wp2_with (first | ((with_reducible refine gate_callee (f := 35) rfl ?_); refine goesL_ (some 5) rfl rfl Try.func35 (by kernel_rfl) rfl #[] rfl (by (try simp only [List.map_toArray, List.map_cons, List.map_nil]); first | done | rfl | (simp only [List.length_drop, List.length_take]; rfl)) ?_; (with_reducible refine (phalaropelaw04_awake.calls k  true _ A2.out).mono ?_); rintro e w62 ⟨rfl, hb⟩; refine ⟨_, rfl, ?_⟩; have n0_ := Aside0.mk (below_step (by repeat (first | (with_reducible first | exact HB.out | apply below_alloc | apply pw_below_drewN | apply below_drew1) | exact HB.out)) hb); clear HB; have HB := n0_; clear n0_; (try clear hb); (try clear hb2); (try clear hk); (try clear hi)) | (go_at_call 38; (with_reducible refine (ucs_May.calls a0 false _ A36.out).mono ?_); rintro e w63 ⟨rfl, hb⟩; have n0_ := Aside0.mk (below_step (by repeat (first | (with_reducible first | exact HB.out | apply below_alloc | apply pw_below_drewN | apply below_drew1) | exact HB.out)) hb); clear HB; have HB := n0_; clear n0_; (try clear hb); (try clear hb2); (try clear hk); (try clear hi)))
            go_ret
            first | exact absurd (show some true = some false from A2.out.symm.trans A36.out) (by decide) | exact absurd (show some false = some true from A2.out.symm.trans A36.out) (by decide) | exact absurd (show some true = some false from A2.out.symm.trans A38.out) (by decide) | exact absurd (show some false = some true from A2.out.symm.trans A38.out) (by decide) | exact absurd (show some true = some false from A36.out.symm.trans A38.out) (by decide) | exact absurd (show some false = some true from A36.out.symm.trans A38.out) (by decide) | exact ⟨by first | rfl | (simp [errW_none, errW_some] <;> rfl) | (simp [*, errW_none, errW_some] <;> rfl), by repeat (first | (with_reducible first | exact HB.out | apply below_alloc | apply pw_below_drewN | apply below_drew1) | exact HB.out)⟩
      · replace c35 := Bool.eq_false_iff.mpr c35
        subst c35
        have H1 : (some false) = some r := by rw [if_neg (show ¬ (false = true) by decide)] at H; exact H
        clear H
        have H := H1
        clear H1
        obtain rfl := Option.some.inj H
        go_enter Try.func14, Try.ntmps14
        go_wp2_with (first | ((with_reducible refine gate_callee (f := 35) rfl ?_); refine goesL_ (some 5) rfl rfl Try.func35 (by kernel_rfl) rfl #[] rfl (by (try simp only [List.map_toArray, List.map_cons, List.map_nil]); first | done | rfl | (simp only [List.length_drop, List.length_take]; rfl)) ?_; (with_reducible refine (phalaropelaw04_awake.calls k  false _ A2.out).mono ?_); rintro e w64 ⟨rfl, hb⟩; refine ⟨_, rfl, ?_⟩; have n0_ := Aside0.mk (below_step (by repeat (first | (with_reducible first | exact HB.out | apply below_alloc | apply pw_below_drewN | apply below_drew1) | exact HB.out)) hb); clear HB; have HB := n0_; clear n0_; (try clear hb); (try clear hb2); (try clear hk); (try clear hi)))
        go_ret
        first | exact absurd (show some true = some false from A2.out.symm.trans A36.out) (by decide) | exact absurd (show some false = some true from A2.out.symm.trans A36.out) (by decide) | exact ⟨by first | rfl | (simp [errW_none, errW_some] <;> rfl) | (simp [*, errW_none, errW_some] <;> rfl), by repeat (first | (with_reducible first | exact HB.out | apply below_alloc | apply pw_below_drewN | apply below_drew1) | exact HB.out)⟩
    · rw [if_neg c34] at H
      have c34b0 : (a0 == 64975) = false := beq_eq_false_iff_ne.mpr c34
      have c34b1 : (a0 != 64975) = true := bne_iff_ne.mpr c34
      by_cases c65 : a0 = 65519
      · rw [if_pos c65] at H
        have c65b0 : (a0 == 65519) = true := beq_iff_eq.mpr c65
        have c65b1 : (a0 != 65519) = false := bne_eq_false_iff_eq.mpr c65
        clear c65
        by_cases c66 : t209 = true
        · subst c66
          have H1 : ((ucs_May.f a0).bind fun t218 => (if t218 = true then ((ucs_May.f (wrap64 (a0 + 1))).bind fun t219 => (if ((!t219) == true) = true then ((ucs_May.f a0).bind fun t220 => (if t220 = true then (some (!(decide (a0 < 160)))) else (some (!false)))) else (some false))) else (if (false == true) = true then ((ucs_May.f a0).bind fun t221 => (if t221 = true then (some (!(decide (a0 < 160)))) else (some (!false)))) else (some false)))) = some r := by rw [if_pos rfl] at H; exact H
          clear H
          have H := H1
          clear H1
          replace H := Option.bind_eq_some_iff.mp H
          obtain ⟨t218, A670, H⟩ := H
          replace H : (if t218 = true then ((ucs_May.f (wrap64 (a0 + 1))).bind fun t219 => (if ((!t219) == true) = true then ((ucs_May.f a0).bind fun t220 => (if t220 = true then (some (!(decide (a0 < 160)))) else (some (!false)))) else (some false))) else (if (false == true) = true then ((ucs_May.f a0).bind fun t221 => (if t221 = true then (some (!(decide (a0 < 160)))) else (some (!false)))) else (some false))) = some r := H
          have A67 := Aside0.mk A670
          clear A670
          by_cases c68 : t218 = true
          · subst c68
            have H1 : ((ucs_May.f (wrap64 (a0 + 1))).bind fun t219 => (if ((!t219) == true) = true then ((ucs_May.f a0).bind fun t220 => (if t220 = true then (some (!(decide (a0 < 160)))) else (some (!false)))) else (some false))) = some r := by rw [if_pos rfl] at H; exact H
            clear H
            have H := H1
            clear H1
            replace H := Option.bind_eq_some_iff.mp H
            obtain ⟨t219, A690, H⟩ := H
            replace H : (if ((!t219) == true) = true then ((ucs_May.f a0).bind fun t220 => (if t220 = true then (some (!(decide (a0 < 160)))) else (some (!false)))) else (some false)) = some r := H
            have A69 := Aside0.mk A690
            clear A690
            by_cases c70 : ((!t219) == true) = true
            · rw [if_pos c70] at H
              have c70b0 : ((!t219) == true) = true := c70
              (try (have c70b1 : decide ((!t219) = true) = true := by simpa using c70))
              (try (have c70b2 : ((!t219) == true) = true := by simpa using c70))
              clear c70
              replace H := Option.bind_eq_some_iff.mp H
              obtain ⟨t220, A710, H⟩ := H
              replace H : (if t220 = true then (some (!(decide (a0 < 160)))) else (some (!false))) = some r := H
              have A71 := Aside0.mk A710
              clear A710
              by_cases c72 : t220 = true
              · subst c72
                have H1 : (some (!(decide (a0 < 160)))) = some r := by rw [if_pos rfl] at H; exact H
                clear H
                have H := H1
                clear H1
                obtain rfl := Option.some.inj H
                go_enter Try.func14, Try.ntmps14
                go_wp2_with (first | ((with_reducible refine gate_callee (f := 35) rfl ?_); refine goesL_ (some 5) rfl rfl Try.func35 (by kernel_rfl) rfl #[] rfl (by (try simp only [List.map_toArray, List.map_cons, List.map_nil]); first | done | rfl | (simp only [List.length_drop, List.length_take]; rfl)) ?_; (with_reducible refine (phalaropelaw04_awake.calls k  true _ A2.out).mono ?_); rintro e w73 ⟨rfl, hb⟩; refine ⟨_, rfl, ?_⟩; have n0_ := Aside0.mk (below_step (by repeat (first | (with_reducible first | exact HB.out | apply below_alloc | apply pw_below_drewN | apply below_drew1) | exact HB.out)) hb); clear HB; have HB := n0_; clear n0_; (try clear hb); (try clear hb2); (try clear hk); (try clear hi)) | (go_at_call 38; (with_reducible refine (ucs_May.calls a0 true _ A67.out).mono ?_); rintro e w74 ⟨rfl, hb⟩; have n0_ := Aside0.mk (below_step (by repeat (first | (with_reducible first | exact HB.out | apply below_alloc | apply pw_below_drewN | apply below_drew1) | exact HB.out)) hb); clear HB; have HB := n0_; clear n0_; (try clear hb); (try clear hb2); (try clear hk); (try clear hi)) | (go_at_call 38; (with_reducible refine (ucs_May.calls (wrap64 (a0 + 1)) t219 _ A69.out).mono ?_); rintro e w75 ⟨rfl, hb⟩; have n0_ := Aside0.mk (below_step (by repeat (first | (with_reducible first | exact HB.out | apply below_alloc | apply pw_below_drewN | apply below_drew1) | exact HB.out)) hb); clear HB; have HB := n0_; clear n0_; (try clear hb); (try clear hb2); (try clear hk); (try clear hi)) | (go_at_call 38; (with_reducible refine (ucs_May.calls a0 true _ A71.out).mono ?_); rintro e w76 ⟨rfl, hb⟩; have n0_ := Aside0.mk (below_step (by repeat (first | (with_reducible first | exact HB.out | apply below_alloc | apply pw_below_drewN | apply below_drew1) | exact HB.out)) hb); clear HB; have HB := n0_; clear n0_; (try clear hb); (try clear hb2); (try clear hk); (try clear hi)))
                go_ret
                first | exact absurd (show some true = some false from A2.out.symm.trans A67.out) (by decide) | exact absurd (show some false = some true from A2.out.symm.trans A67.out) (by decide) | exact absurd (show some true = some false from A2.out.symm.trans A69.out) (by decide) | exact absurd (show some false = some true from A2.out.symm.trans A69.out) (by decide) | exact absurd (show some true = some false from A2.out.symm.trans A71.out) (by decide) | exact absurd (show some false = some true from A2.out.symm.trans A71.out) (by decide) | exact absurd (show some true = some false from A67.out.symm.trans A69.out) (by decide) | exact absurd (show some false = some true from A67.out.symm.trans A69.out) (by decide) | exact absurd (show some true = some false from A67.out.symm.trans A71.out) (by decide) | exact absurd (show some false = some true from A67.out.symm.trans A71.out) (by decide) | exact absurd (show some true = some false from A69.out.symm.trans A71.out) (by decide) | exact absurd (show some false = some true from A69.out.symm.trans A71.out) (by decide) | exact ⟨by first | rfl | (simp [errW_none, errW_some] <;> rfl) | (simp [*, errW_none, errW_some] <;> rfl), by repeat (first | (with_reducible first | exact HB.out | apply below_alloc | apply pw_below_drewN | apply below_drew1) | exact HB.out)⟩
              · replace c72 := Bool.eq_false_iff.mpr c72
                subst c72
                have H1 : (some (!false)) = some r := by rw [if_neg (show ¬ (false = true) by decide)] at H; exact H
                clear H
                have H := H1
                clear H1
                obtain rfl := Option.some.inj H
                go_enter Try.func14, Try.ntmps14
                go_wp2_with (first | ((with_reducible refine gate_callee (f := 35) rfl ?_); refine goesL_ (some 5) rfl rfl Try.func35 (by kernel_rfl) rfl #[] rfl (by (try simp only [List.map_toArray, List.map_cons, List.map_nil]); first | done | rfl | (simp only [List.length_drop, List.length_take]; rfl)) ?_; (with_reducible refine (phalaropelaw04_awake.calls k  true _ A2.out).mono ?_); rintro e w77 ⟨rfl, hb⟩; refine ⟨_, rfl, ?_⟩; have n0_ := Aside0.mk (below_step (by repeat (first | (with_reducible first | exact HB.out | apply below_alloc | apply pw_below_drewN | apply below_drew1) | exact HB.out)) hb); clear HB; have HB := n0_; clear n0_; (try clear hb); (try clear hb2); (try clear hk); (try clear hi)) | (go_at_call 38; (with_reducible refine (ucs_May.calls a0 true _ A67.out).mono ?_); rintro e w78 ⟨rfl, hb⟩; have n0_ := Aside0.mk (below_step (by repeat (first | (with_reducible first | exact HB.out | apply below_alloc | apply pw_below_drewN | apply below_drew1) | exact HB.out)) hb); clear HB; have HB := n0_; clear n0_; (try clear hb); (try clear hb2); (try clear hk); (try clear hi)) | (go_at_call 38; (with_reducible refine (ucs_May.calls (wrap64 (a0 + 1)) t219 _ A69.out).mono ?_); rintro e w79 ⟨rfl, hb⟩; have n0_ := Aside0.mk (below_step (by repeat (first | (with_reducible first | exact HB.out | apply below_alloc | apply pw_below_drewN | apply below_drew1) | exact HB.out)) hb); clear HB; have HB := n0_; clear n0_; (try clear hb); (try clear hb2); (try clear hk); (try clear hi)) | (go_at_call 38; (with_reducible refine (ucs_May.calls a0 false _ A71.out).mono ?_); rintro e w80 ⟨rfl, hb⟩; have n0_ := Aside0.mk (below_step (by repeat (first | (with_reducible first | exact HB.out | apply below_alloc | apply pw_below_drewN | apply below_drew1) | exact HB.out)) hb); clear HB; have HB := n0_; clear n0_; (try clear hb); (try clear hb2); (try clear hk); (try clear hi)))
                go_ret
                first | exact absurd (show some true = some false from A2.out.symm.trans A67.out) (by decide) | exact absurd (show some false = some true from A2.out.symm.trans A67.out) (by decide) | exact absurd (show some true = some false from A2.out.symm.trans A69.out) (by decide) | exact absurd (show some false = some true from A2.out.symm.trans A69.out) (by decide) | exact absurd (show some true = some false from A2.out.symm.trans A71.out) (by decide) | exact absurd (show some false = some true from A2.out.symm.trans A71.out) (by decide) | exact absurd (show some true = some false from A67.out.symm.trans A69.out) (by decide) | exact absurd (show some false = some true from A67.out.symm.trans A69.out) (by decide) | exact absurd (show some true = some false from A67.out.symm.trans A71.out) (by decide) | exact absurd (show some false = some true from A67.out.symm.trans A71.out) (by decide) | exact absurd (show some true = some false from A69.out.symm.trans A71.out) (by decide) | exact absurd (show some false = some true from A69.out.symm.trans A71.out) (by decide) | exact ⟨by first | rfl | (simp [errW_none, errW_some] <;> rfl) | (simp [*, errW_none, errW_some] <;> rfl), by repeat (first | (with_reducible first | exact HB.out | apply below_alloc | apply pw_below_drewN | apply below_drew1) | exact HB.out)⟩
            · rw [if_neg c70] at H
              have c70b0 : ((!t219) == true) = false := by simpa using c70
              (try (have c70b1 : decide ((!t219) = true) = false := by simpa using c70))
              (try (have c70b2 : ((!t219) == true) = false := by simpa using c70))
              (try (have c70b3 : ¬ ((!t219) = true) := by simpa using c70))
              clear c70
              obtain rfl := Option.some.inj H
              go_enter Try.func14, Try.ntmps14
              go_wp2_with (first | ((with_reducible refine gate_callee (f := 35) rfl ?_); refine goesL_ (some 5) rfl rfl Try.func35 (by kernel_rfl) rfl #[] rfl (by (try simp only [List.map_toArray, List.map_cons, List.map_nil]); first | done | rfl | (simp only [List.length_drop, List.length_take]; rfl)) ?_; (with_reducible refine (phalaropelaw04_awake.calls k  true _ A2.out).mono ?_); rintro e w81 ⟨rfl, hb⟩; refine ⟨_, rfl, ?_⟩; have n0_ := Aside0.mk (below_step (by repeat (first | (with_reducible first | exact HB.out | apply below_alloc | apply pw_below_drewN | apply below_drew1) | exact HB.out)) hb); clear HB; have HB := n0_; clear n0_; (try clear hb); (try clear hb2); (try clear hk); (try clear hi)) | (go_at_call 38; (with_reducible refine (ucs_May.calls a0 true _ A67.out).mono ?_); rintro e w82 ⟨rfl, hb⟩; have n0_ := Aside0.mk (below_step (by repeat (first | (with_reducible first | exact HB.out | apply below_alloc | apply pw_below_drewN | apply below_drew1) | exact HB.out)) hb); clear HB; have HB := n0_; clear n0_; (try clear hb); (try clear hb2); (try clear hk); (try clear hi)) | (go_at_call 38; (with_reducible refine (ucs_May.calls (wrap64 (a0 + 1)) t219 _ A69.out).mono ?_); rintro e w83 ⟨rfl, hb⟩; have n0_ := Aside0.mk (below_step (by repeat (first | (with_reducible first | exact HB.out | apply below_alloc | apply pw_below_drewN | apply below_drew1) | exact HB.out)) hb); clear HB; have HB := n0_; clear n0_; (try clear hb); (try clear hb2); (try clear hk); (try clear hi)))
              go_ret
              first | exact absurd (show some true = some false from A2.out.symm.trans A67.out) (by decide) | exact absurd (show some false = some true from A2.out.symm.trans A67.out) (by decide) | exact absurd (show some true = some false from A2.out.symm.trans A69.out) (by decide) | exact absurd (show some false = some true from A2.out.symm.trans A69.out) (by decide) | exact absurd (show some true = some false from A2.out.symm.trans A71.out) (by decide) | exact absurd (show some false = some true from A2.out.symm.trans A71.out) (by decide) | exact absurd (show some true = some false from A67.out.symm.trans A69.out) (by decide) | exact absurd (show some false = some true from A67.out.symm.trans A69.out) (by decide) | exact absurd (show some true = some false from A67.out.symm.trans A71.out) (by decide) | exact absurd (show some false = some true from A67.out.symm.trans A71.out) (by decide) | exact absurd (show some true = some false from A69.out.symm.trans A71.out) (by decide) | exact absurd (show some false = some true from A69.out.symm.trans A71.out) (by decide) | exact ⟨by first | rfl | (simp [errW_none, errW_some] <;> rfl) | (simp [*, errW_none, errW_some] <;> rfl), by repeat (first | (with_reducible first | exact HB.out | apply below_alloc | apply pw_below_drewN | apply below_drew1) | exact HB.out)⟩
          · replace c68 := Bool.eq_false_iff.mpr c68
            subst c68
            have H1 : (if (false == true) = true then ((ucs_May.f a0).bind fun t221 => (if t221 = true then (some (!(decide (a0 < 160)))) else (some (!false)))) else (some false)) = some r := by rw [if_neg (show ¬ (false = true) by decide)] at H; exact H
            clear H
            have H := H1
            clear H1
            by_cases c84 : (false == true) = true
            · exact absurd c84 (by decide)
            · rw [if_neg c84] at H
              have c84b0 : (false == true) = false := by simp
              (try (have c84b1 : decide (false = true) = false := by simp))
              (try (have c84b2 : (false == true) = false := by simp))
              (try (have c84b3 : ¬ (false = true) := by simp))
              clear c84
              obtain rfl := Option.some.inj H
              go_enter Try.func14, Try.ntmps14
              go_wp2_with (first | ((with_reducible refine gate_callee (f := 35) rfl ?_); refine goesL_ (some 5) rfl rfl Try.func35 (by kernel_rfl) rfl #[] rfl (by (try simp only [List.map_toArray, List.map_cons, List.map_nil]); first | done | rfl | (simp only [List.length_drop, List.length_take]; rfl)) ?_; (with_reducible refine (phalaropelaw04_awake.calls k  true _ A2.out).mono ?_); rintro e w93 ⟨rfl, hb⟩; refine ⟨_, rfl, ?_⟩; have n0_ := Aside0.mk (below_step (by repeat (first | (with_reducible first | exact HB.out | apply below_alloc | apply pw_below_drewN | apply below_drew1) | exact HB.out)) hb); clear HB; have HB := n0_; clear n0_; (try clear hb); (try clear hb2); (try clear hk); (try clear hi)) | (go_at_call 38; (with_reducible refine (ucs_May.calls a0 false _ A67.out).mono ?_); rintro e w94 ⟨rfl, hb⟩; have n0_ := Aside0.mk (below_step (by repeat (first | (with_reducible first | exact HB.out | apply below_alloc | apply pw_below_drewN | apply below_drew1) | exact HB.out)) hb); clear HB; have HB := n0_; clear n0_; (try clear hb); (try clear hb2); (try clear hk); (try clear hi)))
              go_ret
              first | exact absurd (show some true = some false from A2.out.symm.trans A67.out) (by decide) | exact absurd (show some false = some true from A2.out.symm.trans A67.out) (by decide) | exact absurd (show some true = some false from A2.out.symm.trans A69.out) (by decide) | exact absurd (show some false = some true from A2.out.symm.trans A69.out) (by decide) | exact absurd (show some true = some false from A67.out.symm.trans A69.out) (by decide) | exact absurd (show some false = some true from A67.out.symm.trans A69.out) (by decide) | exact ⟨by first | rfl | (simp [errW_none, errW_some] <;> rfl) | (simp [*, errW_none, errW_some] <;> rfl), by repeat (first | (with_reducible first | exact HB.out | apply below_alloc | apply pw_below_drewN | apply below_drew1) | exact HB.out)⟩
        · replace c66 := Bool.eq_false_iff.mpr c66
          subst c66
          have H1 : (some false) = some r := by rw [if_neg (show ¬ (false = true) by decide)] at H; exact H
          clear H
          have H := H1
          clear H1
          obtain rfl := Option.some.inj H
          go_enter Try.func14, Try.ntmps14
          go_wp2_with (first | ((with_reducible refine gate_callee (f := 35) rfl ?_); refine goesL_ (some 5) rfl rfl Try.func35 (by kernel_rfl) rfl #[] rfl (by (try simp only [List.map_toArray, List.map_cons, List.map_nil]); first | done | rfl | (simp only [List.length_drop, List.length_take]; rfl)) ?_; (with_reducible refine (phalaropelaw04_awake.calls k  false _ A2.out).mono ?_); rintro e w95 ⟨rfl, hb⟩; refine ⟨_, rfl, ?_⟩; have n0_ := Aside0.mk (below_step (by repeat (first | (with_reducible first | exact HB.out | apply below_alloc | apply pw_below_drewN | apply below_drew1) | exact HB.out)) hb); clear HB; have HB := n0_; clear n0_; (try clear hb); (try clear hb2); (try clear hk); (try clear hi)))
          go_ret
          first | exact absurd (show some true = some false from A2.out.symm.trans A67.out) (by decide) | exact absurd (show some false = some true from A2.out.symm.trans A67.out) (by decide) | exact ⟨by first | rfl | (simp [errW_none, errW_some] <;> rfl) | (simp [*, errW_none, errW_some] <;> rfl), by repeat (first | (with_reducible first | exact HB.out | apply below_alloc | apply pw_below_drewN | apply below_drew1) | exact HB.out)⟩
      · rw [if_neg c65] at H
        have c65b0 : (a0 == 65519) = false := beq_eq_false_iff_ne.mpr c65
        have c65b1 : (a0 != 65519) = true := bne_iff_ne.mpr c65
        by_cases c96 : a0 ≥ 65536
        · rw [if_pos c96] at H
          have c96b0 : decide (65536 ≤ a0) = true := decide_eq_true c96
          clear c96
          by_cases c97 : a0 ≤ 1114109
          · rw [if_pos c97] at H
            have c97b0 : decide (a0 ≤ 1114109) = true := decide_eq_true c97
            clear c97
            by_cases c98 : t209 = true
            · subst c98
              have H1 : ((ucs_May.f a0).bind fun t222 => (if t222 = true then ((ucs_May.f (wrap64 (a0 + 1))).bind fun t223 => (if ((!t223) == ((Int.tmod a0 65536) == 65533)) = true then ((ucs_May.f a0).bind fun t224 => (if t224 = true then (some (!(decide (a0 < 160)))) else (some (!false)))) else (some false))) else (if (false == ((Int.tmod a0 65536) == 65533)) = true then ((ucs_May.f a0).bind fun t225 => (if t225 = true then (some (!(decide (a0 < 160)))) else (some (!false)))) else (some false)))) = some r := by rw [if_pos rfl] at H; exact H
              clear H
              have H := H1
              clear H1
              replace H := Option.bind_eq_some_iff.mp H
              obtain ⟨t222, A990, H⟩ := H
              replace H : (if t222 = true then ((ucs_May.f (wrap64 (a0 + 1))).bind fun t223 => (if ((!t223) == ((Int.tmod a0 65536) == 65533)) = true then ((ucs_May.f a0).bind fun t224 => (if t224 = true then (some (!(decide (a0 < 160)))) else (some (!false)))) else (some false))) else (if (false == ((Int.tmod a0 65536) == 65533)) = true then ((ucs_May.f a0).bind fun t225 => (if t225 = true then (some (!(decide (a0 < 160)))) else (some (!false)))) else (some false))) = some r := H
              have A99 := Aside0.mk A990
              clear A990
              by_cases c100 : t222 = true
              · subst c100
                have H1 : ((ucs_May.f (wrap64 (a0 + 1))).bind fun t223 => (if ((!t223) == ((Int.tmod a0 65536) == 65533)) = true then ((ucs_May.f a0).bind fun t224 => (if t224 = true then (some (!(decide (a0 < 160)))) else (some (!false)))) else (some false))) = some r := by rw [if_pos rfl] at H; exact H
                clear H
                have H := H1
                clear H1
                replace H := Option.bind_eq_some_iff.mp H
                obtain ⟨t223, A1010, H⟩ := H
                replace H : (if ((!t223) == ((Int.tmod a0 65536) == 65533)) = true then ((ucs_May.f a0).bind fun t224 => (if t224 = true then (some (!(decide (a0 < 160)))) else (some (!false)))) else (some false)) = some r := H
                have A101 := Aside0.mk A1010
                clear A1010
                by_cases c102 : ((!t223) == ((Int.tmod a0 65536) == 65533)) = true
                · rw [if_pos c102] at H
                  have c102b0 : ((!t223) == ((Int.tmod a0 65536) == 65533)) = true := c102
                  (try (have c102b1 : decide ((!t223) = ((Int.tmod a0 65536) == 65533)) = true := by simpa using c102))
                  (try (have c102b2 : ((!t223) == ((Int.tmod a0 65536) == 65533)) = true := by simpa using c102))
                  clear c102
                  replace H := Option.bind_eq_some_iff.mp H
                  obtain ⟨t224, A1030, H⟩ := H
                  replace H : (if t224 = true then (some (!(decide (a0 < 160)))) else (some (!false))) = some r := H
                  have A103 := Aside0.mk A1030
                  clear A1030
                  by_cases c104 : t224 = true
                  · subst c104
                    have H1 : (some (!(decide (a0 < 160)))) = some r := by rw [if_pos rfl] at H; exact H
                    clear H
                    have H := H1
                    clear H1
                    obtain rfl := Option.some.inj H
                    go_enter Try.func14, Try.ntmps14
                    go_wp2_with (first | ((with_reducible refine gate_callee (f := 35) rfl ?_); refine goesL_ (some 5) rfl rfl Try.func35 (by kernel_rfl) rfl #[] rfl (by (try simp only [List.map_toArray, List.map_cons, List.map_nil]); first | done | rfl | (simp only [List.length_drop, List.length_take]; rfl)) ?_; (with_reducible refine (phalaropelaw04_awake.calls k  true _ A2.out).mono ?_); rintro e w105 ⟨rfl, hb⟩; refine ⟨_, rfl, ?_⟩; have n0_ := Aside0.mk (below_step (by repeat (first | (with_reducible first | exact HB.out | apply below_alloc | apply pw_below_drewN | apply below_drew1) | exact HB.out)) hb); clear HB; have HB := n0_; clear n0_; (try clear hb); (try clear hb2); (try clear hk); (try clear hi)) | (go_at_call 38; (with_reducible refine (ucs_May.calls a0 true _ A99.out).mono ?_); rintro e w106 ⟨rfl, hb⟩; have n0_ := Aside0.mk (below_step (by repeat (first | (with_reducible first | exact HB.out | apply below_alloc | apply pw_below_drewN | apply below_drew1) | exact HB.out)) hb); clear HB; have HB := n0_; clear n0_; (try clear hb); (try clear hb2); (try clear hk); (try clear hi)) | (go_at_call 38; (with_reducible refine (ucs_May.calls (wrap64 (a0 + 1)) t223 _ A101.out).mono ?_); rintro e w107 ⟨rfl, hb⟩; have n0_ := Aside0.mk (below_step (by repeat (first | (with_reducible first | exact HB.out | apply below_alloc | apply pw_below_drewN | apply below_drew1) | exact HB.out)) hb); clear HB; have HB := n0_; clear n0_; (try clear hb); (try clear hb2); (try clear hk); (try clear hi)) | (go_at_call 38; (with_reducible refine (ucs_May.calls a0 true _ A103.out).mono ?_); rintro e w108 ⟨rfl, hb⟩; have n0_ := Aside0.mk (below_step (by repeat (first | (with_reducible first | exact HB.out | apply below_alloc | apply pw_below_drewN | apply below_drew1) | exact HB.out)) hb); clear HB; have HB := n0_; clear n0_; (try clear hb); (try clear hb2); (try clear hk); (try clear hi)))
                    go_ret
                    first | exact absurd (show some true = some false from A2.out.symm.trans A99.out) (by decide) | exact absurd (show some false = some true from A2.out.symm.trans A99.out) (by decide) | exact absurd (show some true = some false from A2.out.symm.trans A101.out) (by decide) | exact absurd (show some false = some true from A2.out.symm.trans A101.out) (by decide) | exact absurd (show some true = some false from A2.out.symm.trans A103.out) (by decide) | exact absurd (show some false = some true from A2.out.symm.trans A103.out) (by decide) | exact absurd (show some true = some false from A99.out.symm.trans A101.out) (by decide) | exact absurd (show some false = some true from A99.out.symm.trans A101.out) (by decide) | exact absurd (show some true = some false from A99.out.symm.trans A103.out) (by decide) | exact absurd (show some false = some true from A99.out.symm.trans A103.out) (by decide) | exact absurd (show some true = some false from A101.out.symm.trans A103.out) (by decide) | exact absurd (show some false = some true from A101.out.symm.trans A103.out) (by decide) | exact ⟨by first | rfl | (simp [errW_none, errW_some] <;> rfl) | (simp [*, errW_none, errW_some] <;> rfl), by repeat (first | (with_reducible first | exact HB.out | apply below_alloc | apply pw_below_drewN | apply below_drew1) | exact HB.out)⟩
                  · replace c104 := Bool.eq_false_iff.mpr c104
                    subst c104
                    have H1 : (some (!false)) = some r := by rw [if_neg (show ¬ (false = true) by decide)] at H; exact H
                    clear H
                    have H := H1
                    clear H1
                    obtain rfl := Option.some.inj H
                    go_enter Try.func14, Try.ntmps14
                    go_wp2_with (first | ((with_reducible refine gate_callee (f := 35) rfl ?_); refine goesL_ (some 5) rfl rfl Try.func35 (by kernel_rfl) rfl #[] rfl (by (try simp only [List.map_toArray, List.map_cons, List.map_nil]); first | done | rfl | (simp only [List.length_drop, List.length_take]; rfl)) ?_; (with_reducible refine (phalaropelaw04_awake.calls k  true _ A2.out).mono ?_); rintro e w109 ⟨rfl, hb⟩; refine ⟨_, rfl, ?_⟩; have n0_ := Aside0.mk (below_step (by repeat (first | (with_reducible first | exact HB.out | apply below_alloc | apply pw_below_drewN | apply below_drew1) | exact HB.out)) hb); clear HB; have HB := n0_; clear n0_; (try clear hb); (try clear hb2); (try clear hk); (try clear hi)) | (go_at_call 38; (with_reducible refine (ucs_May.calls a0 true _ A99.out).mono ?_); rintro e w110 ⟨rfl, hb⟩; have n0_ := Aside0.mk (below_step (by repeat (first | (with_reducible first | exact HB.out | apply below_alloc | apply pw_below_drewN | apply below_drew1) | exact HB.out)) hb); clear HB; have HB := n0_; clear n0_; (try clear hb); (try clear hb2); (try clear hk); (try clear hi)) | (go_at_call 38; (with_reducible refine (ucs_May.calls (wrap64 (a0 + 1)) t223 _ A101.out).mono ?_); rintro e w111 ⟨rfl, hb⟩; have n0_ := Aside0.mk (below_step (by repeat (first | (with_reducible first | exact HB.out | apply below_alloc | apply pw_below_drewN | apply below_drew1) | exact HB.out)) hb); clear HB; have HB := n0_; clear n0_; (try clear hb); (try clear hb2); (try clear hk); (try clear hi)) | (go_at_call 38; (with_reducible refine (ucs_May.calls a0 false _ A103.out).mono ?_); rintro e w112 ⟨rfl, hb⟩; have n0_ := Aside0.mk (below_step (by repeat (first | (with_reducible first | exact HB.out | apply below_alloc | apply pw_below_drewN | apply below_drew1) | exact HB.out)) hb); clear HB; have HB := n0_; clear n0_; (try clear hb); (try clear hb2); (try clear hk); (try clear hi)))
                    go_ret
                    first | exact absurd (show some true = some false from A2.out.symm.trans A99.out) (by decide) | exact absurd (show some false = some true from A2.out.symm.trans A99.out) (by decide) | exact absurd (show some true = some false from A2.out.symm.trans A101.out) (by decide) | exact absurd (show some false = some true from A2.out.symm.trans A101.out) (by decide) | exact absurd (show some true = some false from A2.out.symm.trans A103.out) (by decide) | exact absurd (show some false = some true from A2.out.symm.trans A103.out) (by decide) | exact absurd (show some true = some false from A99.out.symm.trans A101.out) (by decide) | exact absurd (show some false = some true from A99.out.symm.trans A101.out) (by decide) | exact absurd (show some true = some false from A99.out.symm.trans A103.out) (by decide) | exact absurd (show some false = some true from A99.out.symm.trans A103.out) (by decide) | exact absurd (show some true = some false from A101.out.symm.trans A103.out) (by decide) | exact absurd (show some false = some true from A101.out.symm.trans A103.out) (by decide) | exact ⟨by first | rfl | (simp [errW_none, errW_some] <;> rfl) | (simp [*, errW_none, errW_some] <;> rfl), by repeat (first | (with_reducible first | exact HB.out | apply below_alloc | apply pw_below_drewN | apply below_drew1) | exact HB.out)⟩
                · rw [if_neg c102] at H
                  have c102b0 : ((!t223) == ((Int.tmod a0 65536) == 65533)) = false := by simpa using c102
                  (try (have c102b1 : decide ((!t223) = ((Int.tmod a0 65536) == 65533)) = false := by simpa using c102))
                  (try (have c102b2 : ((!t223) == ((Int.tmod a0 65536) == 65533)) = false := by simpa using c102))
                  (try (have c102b3 : ¬ ((!t223) = ((Int.tmod a0 65536) == 65533)) := by simpa using c102))
                  clear c102
                  obtain rfl := Option.some.inj H
                  go_enter Try.func14, Try.ntmps14
                  go_wp2_with (first | ((with_reducible refine gate_callee (f := 35) rfl ?_); refine goesL_ (some 5) rfl rfl Try.func35 (by kernel_rfl) rfl #[] rfl (by (try simp only [List.map_toArray, List.map_cons, List.map_nil]); first | done | rfl | (simp only [List.length_drop, List.length_take]; rfl)) ?_; (with_reducible refine (phalaropelaw04_awake.calls k  true _ A2.out).mono ?_); rintro e w113 ⟨rfl, hb⟩; refine ⟨_, rfl, ?_⟩; have n0_ := Aside0.mk (below_step (by repeat (first | (with_reducible first | exact HB.out | apply below_alloc | apply pw_below_drewN | apply below_drew1) | exact HB.out)) hb); clear HB; have HB := n0_; clear n0_; (try clear hb); (try clear hb2); (try clear hk); (try clear hi)) | (go_at_call 38; (with_reducible refine (ucs_May.calls a0 true _ A99.out).mono ?_); rintro e w114 ⟨rfl, hb⟩; have n0_ := Aside0.mk (below_step (by repeat (first | (with_reducible first | exact HB.out | apply below_alloc | apply pw_below_drewN | apply below_drew1) | exact HB.out)) hb); clear HB; have HB := n0_; clear n0_; (try clear hb); (try clear hb2); (try clear hk); (try clear hi)) | (go_at_call 38; (with_reducible refine (ucs_May.calls (wrap64 (a0 + 1)) t223 _ A101.out).mono ?_); rintro e w115 ⟨rfl, hb⟩; have n0_ := Aside0.mk (below_step (by repeat (first | (with_reducible first | exact HB.out | apply below_alloc | apply pw_below_drewN | apply below_drew1) | exact HB.out)) hb); clear HB; have HB := n0_; clear n0_; (try clear hb); (try clear hb2); (try clear hk); (try clear hi)))
                  go_ret
                  first | exact absurd (show some true = some false from A2.out.symm.trans A99.out) (by decide) | exact absurd (show some false = some true from A2.out.symm.trans A99.out) (by decide) | exact absurd (show some true = some false from A2.out.symm.trans A101.out) (by decide) | exact absurd (show some false = some true from A2.out.symm.trans A101.out) (by decide) | exact absurd (show some true = some false from A2.out.symm.trans A103.out) (by decide) | exact absurd (show some false = some true from A2.out.symm.trans A103.out) (by decide) | exact absurd (show some true = some false from A99.out.symm.trans A101.out) (by decide) | exact absurd (show some false = some true from A99.out.symm.trans A101.out) (by decide) | exact absurd (show some true = some false from A99.out.symm.trans A103.out) (by decide) | exact absurd (show some false = some true from A99.out.symm.trans A103.out) (by decide) | exact absurd (show some true = some false from A101.out.symm.trans A103.out) (by decide) | exact absurd (show some false = some true from A101.out.symm.trans A103.out) (by decide) | exact ⟨by first | rfl | (simp [errW_none, errW_some] <;> rfl) | (simp [*, errW_none, errW_some] <;> rfl), by repeat (first | (with_reducible first | exact HB.out | apply below_alloc | apply pw_below_drewN | apply below_drew1) | exact HB.out)⟩
              · replace c100 := Bool.eq_false_iff.mpr c100
                subst c100
                have H1 : (if (false == ((Int.tmod a0 65536) == 65533)) = true then ((ucs_May.f a0).bind fun t225 => (if t225 = true then (some (!(decide (a0 < 160)))) else (some (!false)))) else (some false)) = some r := by rw [if_neg (show ¬ (false = true) by decide)] at H; exact H
                clear H
                have H := H1
                clear H1
                by_cases c116 : (false == ((Int.tmod a0 65536) == 65533)) = true
                · rw [if_pos c116] at H
                  have c116b0 : (false == ((Int.tmod a0 65536) == 65533)) = true := c116
                  (try (have c116b1 : decide (false = ((Int.tmod a0 65536) == 65533)) = true := by simpa using c116))
                  (try (have c116b2 : (false == ((Int.tmod a0 65536) == 65533)) = true := by simpa using c116))
                  clear c116
                  replace H := Option.bind_eq_some_iff.mp H
                  obtain ⟨t225, A1170, H⟩ := H
                  replace H : (if t225 = true then (some (!(decide (a0 < 160)))) else (some (!false))) = some r := H
                  have A117 := Aside0.mk A1170
                  clear A1170
                  by_cases c118 : t225 = true
                  · subst c118
                    have H1 : (some (!(decide (a0 < 160)))) = some r := by rw [if_pos rfl] at H; exact H
                    clear H
                    have H := H1
                    clear H1
                    obtain rfl := Option.some.inj H
                    go_enter Try.func14, Try.ntmps14
                    go_wp2_with (first | ((with_reducible refine gate_callee (f := 35) rfl ?_); refine goesL_ (some 5) rfl rfl Try.func35 (by kernel_rfl) rfl #[] rfl (by (try simp only [List.map_toArray, List.map_cons, List.map_nil]); first | done | rfl | (simp only [List.length_drop, List.length_take]; rfl)) ?_; (with_reducible refine (phalaropelaw04_awake.calls k  true _ A2.out).mono ?_); rintro e w119 ⟨rfl, hb⟩; refine ⟨_, rfl, ?_⟩; have n0_ := Aside0.mk (below_step (by repeat (first | (with_reducible first | exact HB.out | apply below_alloc | apply pw_below_drewN | apply below_drew1) | exact HB.out)) hb); clear HB; have HB := n0_; clear n0_; (try clear hb); (try clear hb2); (try clear hk); (try clear hi)) | (go_at_call 38; (with_reducible refine (ucs_May.calls a0 false _ A99.out).mono ?_); rintro e w120 ⟨rfl, hb⟩; have n0_ := Aside0.mk (below_step (by repeat (first | (with_reducible first | exact HB.out | apply below_alloc | apply pw_below_drewN | apply below_drew1) | exact HB.out)) hb); clear HB; have HB := n0_; clear n0_; (try clear hb); (try clear hb2); (try clear hk); (try clear hi)) | (go_at_call 38; (with_reducible refine (ucs_May.calls a0 true _ A117.out).mono ?_); rintro e w121 ⟨rfl, hb⟩; have n0_ := Aside0.mk (below_step (by repeat (first | (with_reducible first | exact HB.out | apply below_alloc | apply pw_below_drewN | apply below_drew1) | exact HB.out)) hb); clear HB; have HB := n0_; clear n0_; (try clear hb); (try clear hb2); (try clear hk); (try clear hi)))
                    go_ret
                    first | exact absurd (show some true = some false from A2.out.symm.trans A99.out) (by decide) | exact absurd (show some false = some true from A2.out.symm.trans A99.out) (by decide) | exact absurd (show some true = some false from A2.out.symm.trans A101.out) (by decide) | exact absurd (show some false = some true from A2.out.symm.trans A101.out) (by decide) | exact absurd (show some true = some false from A2.out.symm.trans A117.out) (by decide) | exact absurd (show some false = some true from A2.out.symm.trans A117.out) (by decide) | exact absurd (show some true = some false from A99.out.symm.trans A101.out) (by decide) | exact absurd (show some false = some true from A99.out.symm.trans A101.out) (by decide) | exact absurd (show some true = some false from A99.out.symm.trans A117.out) (by decide) | exact absurd (show some false = some true from A99.out.symm.trans A117.out) (by decide) | exact absurd (show some true = some false from A101.out.symm.trans A117.out) (by decide) | exact absurd (show some false = some true from A101.out.symm.trans A117.out) (by decide) | exact ⟨by first | rfl | (simp [errW_none, errW_some] <;> rfl) | (simp [*, errW_none, errW_some] <;> rfl), by repeat (first | (with_reducible first | exact HB.out | apply below_alloc | apply pw_below_drewN | apply below_drew1) | exact HB.out)⟩
                  · replace c118 := Bool.eq_false_iff.mpr c118
                    subst c118
                    have H1 : (some (!false)) = some r := by rw [if_neg (show ¬ (false = true) by decide)] at H; exact H
                    clear H
                    have H := H1
                    clear H1
                    obtain rfl := Option.some.inj H
                    go_enter Try.func14, Try.ntmps14
                    go_wp2_with (first | ((with_reducible refine gate_callee (f := 35) rfl ?_); refine goesL_ (some 5) rfl rfl Try.func35 (by kernel_rfl) rfl #[] rfl (by (try simp only [List.map_toArray, List.map_cons, List.map_nil]); first | done | rfl | (simp only [List.length_drop, List.length_take]; rfl)) ?_; (with_reducible refine (phalaropelaw04_awake.calls k  true _ A2.out).mono ?_); rintro e w122 ⟨rfl, hb⟩; refine ⟨_, rfl, ?_⟩; have n0_ := Aside0.mk (below_step (by repeat (first | (with_reducible first | exact HB.out | apply below_alloc | apply pw_below_drewN | apply below_drew1) | exact HB.out)) hb); clear HB; have HB := n0_; clear n0_; (try clear hb); (try clear hb2); (try clear hk); (try clear hi)) | (go_at_call 38; (with_reducible refine (ucs_May.calls a0 false _ A99.out).mono ?_); rintro e w123 ⟨rfl, hb⟩; have n0_ := Aside0.mk (below_step (by repeat (first | (with_reducible first | exact HB.out | apply below_alloc | apply pw_below_drewN | apply below_drew1) | exact HB.out)) hb); clear HB; have HB := n0_; clear n0_; (try clear hb); (try clear hb2); (try clear hk); (try clear hi)) | (go_at_call 38; (with_reducible refine (ucs_May.calls a0 false _ A117.out).mono ?_); rintro e w124 ⟨rfl, hb⟩; have n0_ := Aside0.mk (below_step (by repeat (first | (with_reducible first | exact HB.out | apply below_alloc | apply pw_below_drewN | apply below_drew1) | exact HB.out)) hb); clear HB; have HB := n0_; clear n0_; (try clear hb); (try clear hb2); (try clear hk); (try clear hi)))
                    go_ret
                    first | exact absurd (show some true = some false from A2.out.symm.trans A99.out) (by decide) | exact absurd (show some false = some true from A2.out.symm.trans A99.out) (by decide) | exact absurd (show some true = some false from A2.out.symm.trans A101.out) (by decide) | exact absurd (show some false = some true from A2.out.symm.trans A101.out) (by decide) | exact absurd (show some true = some false from A2.out.symm.trans A117.out) (by decide) | exact absurd (show some false = some true from A2.out.symm.trans A117.out) (by decide) | exact absurd (show some true = some false from A99.out.symm.trans A101.out) (by decide) | exact absurd (show some false = some true from A99.out.symm.trans A101.out) (by decide) | exact absurd (show some true = some false from A99.out.symm.trans A117.out) (by decide) | exact absurd (show some false = some true from A99.out.symm.trans A117.out) (by decide) | exact absurd (show some true = some false from A101.out.symm.trans A117.out) (by decide) | exact absurd (show some false = some true from A101.out.symm.trans A117.out) (by decide) | exact ⟨by first | rfl | (simp [errW_none, errW_some] <;> rfl) | (simp [*, errW_none, errW_some] <;> rfl), by repeat (first | (with_reducible first | exact HB.out | apply below_alloc | apply pw_below_drewN | apply below_drew1) | exact HB.out)⟩
                · rw [if_neg c116] at H
                  have c116b0 : (false == ((Int.tmod a0 65536) == 65533)) = false := by simpa using c116
                  (try (have c116b1 : decide (false = ((Int.tmod a0 65536) == 65533)) = false := by simpa using c116))
                  (try (have c116b2 : (false == ((Int.tmod a0 65536) == 65533)) = false := by simpa using c116))
                  (try (have c116b3 : ¬ (false = ((Int.tmod a0 65536) == 65533)) := by simpa using c116))
                  clear c116
                  obtain rfl := Option.some.inj H
                  go_enter Try.func14, Try.ntmps14
                  go_wp2_with (first | ((with_reducible refine gate_callee (f := 35) rfl ?_); refine goesL_ (some 5) rfl rfl Try.func35 (by kernel_rfl) rfl #[] rfl (by (try simp only [List.map_toArray, List.map_cons, List.map_nil]); first | done | rfl | (simp only [List.length_drop, List.length_take]; rfl)) ?_; (with_reducible refine (phalaropelaw04_awake.calls k  true _ A2.out).mono ?_); rintro e w125 ⟨rfl, hb⟩; refine ⟨_, rfl, ?_⟩; have n0_ := Aside0.mk (below_step (by repeat (first | (with_reducible first | exact HB.out | apply below_alloc | apply pw_below_drewN | apply below_drew1) | exact HB.out)) hb); clear HB; have HB := n0_; clear n0_; (try clear hb); (try clear hb2); (try clear hk); (try clear hi)) | (go_at_call 38; (with_reducible refine (ucs_May.calls a0 false _ A99.out).mono ?_); rintro e w126 ⟨rfl, hb⟩; have n0_ := Aside0.mk (below_step (by repeat (first | (with_reducible first | exact HB.out | apply below_alloc | apply pw_below_drewN | apply below_drew1) | exact HB.out)) hb); clear HB; have HB := n0_; clear n0_; (try clear hb); (try clear hb2); (try clear hk); (try clear hi)))
                  go_ret
                  first | exact absurd (show some true = some false from A2.out.symm.trans A99.out) (by decide) | exact absurd (show some false = some true from A2.out.symm.trans A99.out) (by decide) | exact absurd (show some true = some false from A2.out.symm.trans A101.out) (by decide) | exact absurd (show some false = some true from A2.out.symm.trans A101.out) (by decide) | exact absurd (show some true = some false from A2.out.symm.trans A117.out) (by decide) | exact absurd (show some false = some true from A2.out.symm.trans A117.out) (by decide) | exact absurd (show some true = some false from A99.out.symm.trans A101.out) (by decide) | exact absurd (show some false = some true from A99.out.symm.trans A101.out) (by decide) | exact absurd (show some true = some false from A99.out.symm.trans A117.out) (by decide) | exact absurd (show some false = some true from A99.out.symm.trans A117.out) (by decide) | exact absurd (show some true = some false from A101.out.symm.trans A117.out) (by decide) | exact absurd (show some false = some true from A101.out.symm.trans A117.out) (by decide) | exact ⟨by first | rfl | (simp [errW_none, errW_some] <;> rfl) | (simp [*, errW_none, errW_some] <;> rfl), by repeat (first | (with_reducible first | exact HB.out | apply below_alloc | apply pw_below_drewN | apply below_drew1) | exact HB.out)⟩
            · replace c98 := Bool.eq_false_iff.mpr c98
              subst c98
              have H1 : (some false) = some r := by rw [if_neg (show ¬ (false = true) by decide)] at H; exact H
              clear H
              have H := H1
              clear H1
              obtain rfl := Option.some.inj H
              go_enter Try.func14, Try.ntmps14
              go_wp2_with (first | ((with_reducible refine gate_callee (f := 35) rfl ?_); refine goesL_ (some 5) rfl rfl Try.func35 (by kernel_rfl) rfl #[] rfl (by (try simp only [List.map_toArray, List.map_cons, List.map_nil]); first | done | rfl | (simp only [List.length_drop, List.length_take]; rfl)) ?_; (with_reducible refine (phalaropelaw04_awake.calls k  false _ A2.out).mono ?_); rintro e w127 ⟨rfl, hb⟩; refine ⟨_, rfl, ?_⟩; have n0_ := Aside0.mk (below_step (by repeat (first | (with_reducible first | exact HB.out | apply below_alloc | apply pw_below_drewN | apply below_drew1) | exact HB.out)) hb); clear HB; have HB := n0_; clear n0_; (try clear hb); (try clear hb2); (try clear hk); (try clear hi)))
              go_ret
              first | exact absurd (show some true = some false from A2.out.symm.trans A99.out) (by decide) | exact absurd (show some false = some true from A2.out.symm.trans A99.out) (by decide) | exact ⟨by first | rfl | (simp [errW_none, errW_some] <;> rfl) | (simp [*, errW_none, errW_some] <;> rfl), by repeat (first | (with_reducible first | exact HB.out | apply below_alloc | apply pw_below_drewN | apply below_drew1) | exact HB.out)⟩
          · rw [if_neg c97] at H
            have c97b0 : decide (a0 ≤ 1114109) = false := decide_eq_false c97
            clear c97
            by_cases c128 : t209 = true
            · subst c128
              have H1 : ((ucs_May.f a0).bind fun t226 => (if t226 = true then ((ucs_May.f (wrap64 (a0 + 1))).bind fun t227 => (if ((!t227) == false) = true then ((ucs_May.f a0).bind fun t228 => (if t228 = true then (some (!(decide (a0 < 160)))) else (some (!false)))) else (some false))) else (if (false == false) = true then ((ucs_May.f a0).bind fun t229 => (if t229 = true then (some (!(decide (a0 < 160)))) else (some (!false)))) else (some false)))) = some r := by rw [if_pos rfl] at H; exact H
              clear H
              have H := H1
              clear H1
              replace H := Option.bind_eq_some_iff.mp H
              obtain ⟨t226, A1290, H⟩ := H
              replace H : (if t226 = true then ((ucs_May.f (wrap64 (a0 + 1))).bind fun t227 => (if ((!t227) == false) = true then ((ucs_May.f a0).bind fun t228 => (if t228 = true then (some (!(decide (a0 < 160)))) else (some (!false)))) else (some false))) else (if (false == false) = true then ((ucs_May.f a0).bind fun t229 => (if t229 = true then (some (!(decide (a0 < 160)))) else (some (!false)))) else (some false))) = some r := H
              have A129 := Aside0.mk A1290
              clear A1290
              by_cases c130 : t226 = true
              · subst c130
                have H1 : ((ucs_May.f (wrap64 (a0 + 1))).bind fun t227 => (if ((!t227) == false) = true then ((ucs_May.f a0).bind fun t228 => (if t228 = true then (some (!(decide (a0 < 160)))) else (some (!false)))) else (some false))) = some r := by rw [if_pos rfl] at H; exact H
                clear H
                have H := H1
                clear H1
                replace H := Option.bind_eq_some_iff.mp H
                obtain ⟨t227, A1310, H⟩ := H
                replace H : (if ((!t227) == false) = true then ((ucs_May.f a0).bind fun t228 => (if t228 = true then (some (!(decide (a0 < 160)))) else (some (!false)))) else (some false)) = some r := H
                have A131 := Aside0.mk A1310
                clear A1310
                by_cases c132 : ((!t227) == false) = true
                · rw [if_pos c132] at H
                  have c132b0 : ((!t227) == false) = true := c132
                  (try (have c132b1 : decide ((!t227) = false) = true := by simpa using c132))
                  (try (have c132b2 : ((!t227) == false) = true := by simpa using c132))
                  clear c132
                  replace H := Option.bind_eq_some_iff.mp H
                  obtain ⟨t228, A1330, H⟩ := H
                  replace H : (if t228 = true then (some (!(decide (a0 < 160)))) else (some (!false))) = some r := H
                  have A133 := Aside0.mk A1330
                  clear A1330
                  by_cases c134 : t228 = true
                  · subst c134
                    have H1 : (some (!(decide (a0 < 160)))) = some r := by rw [if_pos rfl] at H; exact H
                    clear H
                    have H := H1
                    clear H1
                    obtain rfl := Option.some.inj H
                    go_enter Try.func14, Try.ntmps14
                    go_wp2_with (first | ((with_reducible refine gate_callee (f := 35) rfl ?_); refine goesL_ (some 5) rfl rfl Try.func35 (by kernel_rfl) rfl #[] rfl (by (try simp only [List.map_toArray, List.map_cons, List.map_nil]); first | done | rfl | (simp only [List.length_drop, List.length_take]; rfl)) ?_; (with_reducible refine (phalaropelaw04_awake.calls k  true _ A2.out).mono ?_); rintro e w135 ⟨rfl, hb⟩; refine ⟨_, rfl, ?_⟩; have n0_ := Aside0.mk (below_step (by repeat (first | (with_reducible first | exact HB.out | apply below_alloc | apply pw_below_drewN | apply below_drew1) | exact HB.out)) hb); clear HB; have HB := n0_; clear n0_; (try clear hb); (try clear hb2); (try clear hk); (try clear hi)) | (go_at_call 38; (with_reducible refine (ucs_May.calls a0 true _ A129.out).mono ?_); rintro e w136 ⟨rfl, hb⟩; have n0_ := Aside0.mk (below_step (by repeat (first | (with_reducible first | exact HB.out | apply below_alloc | apply pw_below_drewN | apply below_drew1) | exact HB.out)) hb); clear HB; have HB := n0_; clear n0_; (try clear hb); (try clear hb2); (try clear hk); (try clear hi)) | (go_at_call 38; (with_reducible refine (ucs_May.calls (wrap64 (a0 + 1)) t227 _ A131.out).mono ?_); rintro e w137 ⟨rfl, hb⟩; have n0_ := Aside0.mk (below_step (by repeat (first | (with_reducible first | exact HB.out | apply below_alloc | apply pw_below_drewN | apply below_drew1) | exact HB.out)) hb); clear HB; have HB := n0_; clear n0_; (try clear hb); (try clear hb2); (try clear hk); (try clear hi)) | (go_at_call 38; (with_reducible refine (ucs_May.calls a0 true _ A133.out).mono ?_); rintro e w138 ⟨rfl, hb⟩; have n0_ := Aside0.mk (below_step (by repeat (first | (with_reducible first | exact HB.out | apply below_alloc | apply pw_below_drewN | apply below_drew1) | exact HB.out)) hb); clear HB; have HB := n0_; clear n0_; (try clear hb); (try clear hb2); (try clear hk); (try clear hi)))
                    go_ret
                    first | exact absurd (show some true = some false from A2.out.symm.trans A129.out) (by decide) | exact absurd (show some false = some true from A2.out.symm.trans A129.out) (by decide) | exact absurd (show some true = some false from A2.out.symm.trans A131.out) (by decide) | exact absurd (show some false = some true from A2.out.symm.trans A131.out) (by decide) | exact absurd (show some true = some false from A2.out.symm.trans A133.out) (by decide) | exact absurd (show some false = some true from A2.out.symm.trans A133.out) (by decide) | exact absurd (show some true = some false from A129.out.symm.trans A131.out) (by decide) | exact absurd (show some false = some true from A129.out.symm.trans A131.out) (by decide) | exact absurd (show some true = some false from A129.out.symm.trans A133.out) (by decide) | exact absurd (show some false = some true from A129.out.symm.trans A133.out) (by decide) | exact absurd (show some true = some false from A131.out.symm.trans A133.out) (by decide) | exact absurd (show some false = some true from A131.out.symm.trans A133.out) (by decide) | exact ⟨by first | rfl | (simp [errW_none, errW_some] <;> rfl) | (simp [*, errW_none, errW_some] <;> rfl), by repeat (first | (with_reducible first | exact HB.out | apply below_alloc | apply pw_below_drewN | apply below_drew1) | exact HB.out)⟩
                  · replace c134 := Bool.eq_false_iff.mpr c134
                    subst c134
                    have H1 : (some (!false)) = some r := by rw [if_neg (show ¬ (false = true) by decide)] at H; exact H
                    clear H
                    have H := H1
                    clear H1
                    obtain rfl := Option.some.inj H
                    go_enter Try.func14, Try.ntmps14
                    go_wp2_with (first | ((with_reducible refine gate_callee (f := 35) rfl ?_); refine goesL_ (some 5) rfl rfl Try.func35 (by kernel_rfl) rfl #[] rfl (by (try simp only [List.map_toArray, List.map_cons, List.map_nil]); first | done | rfl | (simp only [List.length_drop, List.length_take]; rfl)) ?_; (with_reducible refine (phalaropelaw04_awake.calls k  true _ A2.out).mono ?_); rintro e w139 ⟨rfl, hb⟩; refine ⟨_, rfl, ?_⟩; have n0_ := Aside0.mk (below_step (by repeat (first | (with_reducible first | exact HB.out | apply below_alloc | apply pw_below_drewN | apply below_drew1) | exact HB.out)) hb); clear HB; have HB := n0_; clear n0_; (try clear hb); (try clear hb2); (try clear hk); (try clear hi)) | (go_at_call 38; (with_reducible refine (ucs_May.calls a0 true _ A129.out).mono ?_); rintro e w140 ⟨rfl, hb⟩; have n0_ := Aside0.mk (below_step (by repeat (first | (with_reducible first | exact HB.out | apply below_alloc | apply pw_below_drewN | apply below_drew1) | exact HB.out)) hb); clear HB; have HB := n0_; clear n0_; (try clear hb); (try clear hb2); (try clear hk); (try clear hi)) | (go_at_call 38; (with_reducible refine (ucs_May.calls (wrap64 (a0 + 1)) t227 _ A131.out).mono ?_); rintro e w141 ⟨rfl, hb⟩; have n0_ := Aside0.mk (below_step (by repeat (first | (with_reducible first | exact HB.out | apply below_alloc | apply pw_below_drewN | apply below_drew1) | exact HB.out)) hb); clear HB; have HB := n0_; clear n0_; (try clear hb); (try clear hb2); (try clear hk); (try clear hi)) | (go_at_call 38; (with_reducible refine (ucs_May.calls a0 false _ A133.out).mono ?_); rintro e w142 ⟨rfl, hb⟩; have n0_ := Aside0.mk (below_step (by repeat (first | (with_reducible first | exact HB.out | apply below_alloc | apply pw_below_drewN | apply below_drew1) | exact HB.out)) hb); clear HB; have HB := n0_; clear n0_; (try clear hb); (try clear hb2); (try clear hk); (try clear hi)))
                    go_ret
                    first | exact absurd (show some true = some false from A2.out.symm.trans A129.out) (by decide) | exact absurd (show some false = some true from A2.out.symm.trans A129.out) (by decide) | exact absurd (show some true = some false from A2.out.symm.trans A131.out) (by decide) | exact absurd (show some false = some true from A2.out.symm.trans A131.out) (by decide) | exact absurd (show some true = some false from A2.out.symm.trans A133.out) (by decide) | exact absurd (show some false = some true from A2.out.symm.trans A133.out) (by decide) | exact absurd (show some true = some false from A129.out.symm.trans A131.out) (by decide) | exact absurd (show some false = some true from A129.out.symm.trans A131.out) (by decide) | exact absurd (show some true = some false from A129.out.symm.trans A133.out) (by decide) | exact absurd (show some false = some true from A129.out.symm.trans A133.out) (by decide) | exact absurd (show some true = some false from A131.out.symm.trans A133.out) (by decide) | exact absurd (show some false = some true from A131.out.symm.trans A133.out) (by decide) | exact ⟨by first | rfl | (simp [errW_none, errW_some] <;> rfl) | (simp [*, errW_none, errW_some] <;> rfl), by repeat (first | (with_reducible first | exact HB.out | apply below_alloc | apply pw_below_drewN | apply below_drew1) | exact HB.out)⟩
                · rw [if_neg c132] at H
                  have c132b0 : ((!t227) == false) = false := by simpa using c132
                  (try (have c132b1 : decide ((!t227) = false) = false := by simpa using c132))
                  (try (have c132b2 : ((!t227) == false) = false := by simpa using c132))
                  (try (have c132b3 : ¬ ((!t227) = false) := by simpa using c132))
                  clear c132
                  obtain rfl := Option.some.inj H
                  go_enter Try.func14, Try.ntmps14
                  go_wp2_with (first | ((with_reducible refine gate_callee (f := 35) rfl ?_); refine goesL_ (some 5) rfl rfl Try.func35 (by kernel_rfl) rfl #[] rfl (by (try simp only [List.map_toArray, List.map_cons, List.map_nil]); first | done | rfl | (simp only [List.length_drop, List.length_take]; rfl)) ?_; (with_reducible refine (phalaropelaw04_awake.calls k  true _ A2.out).mono ?_); rintro e w143 ⟨rfl, hb⟩; refine ⟨_, rfl, ?_⟩; have n0_ := Aside0.mk (below_step (by repeat (first | (with_reducible first | exact HB.out | apply below_alloc | apply pw_below_drewN | apply below_drew1) | exact HB.out)) hb); clear HB; have HB := n0_; clear n0_; (try clear hb); (try clear hb2); (try clear hk); (try clear hi)) | (go_at_call 38; (with_reducible refine (ucs_May.calls a0 true _ A129.out).mono ?_); rintro e w144 ⟨rfl, hb⟩; have n0_ := Aside0.mk (below_step (by repeat (first | (with_reducible first | exact HB.out | apply below_alloc | apply pw_below_drewN | apply below_drew1) | exact HB.out)) hb); clear HB; have HB := n0_; clear n0_; (try clear hb); (try clear hb2); (try clear hk); (try clear hi)) | (go_at_call 38; (with_reducible refine (ucs_May.calls (wrap64 (a0 + 1)) t227 _ A131.out).mono ?_); rintro e w145 ⟨rfl, hb⟩; have n0_ := Aside0.mk (below_step (by repeat (first | (with_reducible first | exact HB.out | apply below_alloc | apply pw_below_drewN | apply below_drew1) | exact HB.out)) hb); clear HB; have HB := n0_; clear n0_; (try clear hb); (try clear hb2); (try clear hk); (try clear hi)))
                  go_ret
                  first | exact absurd (show some true = some false from A2.out.symm.trans A129.out) (by decide) | exact absurd (show some false = some true from A2.out.symm.trans A129.out) (by decide) | exact absurd (show some true = some false from A2.out.symm.trans A131.out) (by decide) | exact absurd (show some false = some true from A2.out.symm.trans A131.out) (by decide) | exact absurd (show some true = some false from A2.out.symm.trans A133.out) (by decide) | exact absurd (show some false = some true from A2.out.symm.trans A133.out) (by decide) | exact absurd (show some true = some false from A129.out.symm.trans A131.out) (by decide) | exact absurd (show some false = some true from A129.out.symm.trans A131.out) (by decide) | exact absurd (show some true = some false from A129.out.symm.trans A133.out) (by decide) | exact absurd (show some false = some true from A129.out.symm.trans A133.out) (by decide) | exact absurd (show some true = some false from A131.out.symm.trans A133.out) (by decide) | exact absurd (show some false = some true from A131.out.symm.trans A133.out) (by decide) | exact ⟨by first | rfl | (simp [errW_none, errW_some] <;> rfl) | (simp [*, errW_none, errW_some] <;> rfl), by repeat (first | (with_reducible first | exact HB.out | apply below_alloc | apply pw_below_drewN | apply below_drew1) | exact HB.out)⟩
              · replace c130 := Bool.eq_false_iff.mpr c130
                subst c130
                have H1 : (if (false == false) = true then ((ucs_May.f a0).bind fun t229 => (if t229 = true then (some (!(decide (a0 < 160)))) else (some (!false)))) else (some false)) = some r := by rw [if_neg (show ¬ (false = true) by decide)] at H; exact H
                clear H
                have H := H1
                clear H1
                by_cases c146 : (false == false) = true
                · rw [if_pos c146] at H
                  have c146b0 : (false == false) = true := c146
                  (try (have c146b1 : decide (false = false) = true := by simp))
                  (try (have c146b2 : (false == false) = true := by simp))
                  clear c146
                  replace H := Option.bind_eq_some_iff.mp H
                  obtain ⟨t229, A1470, H⟩ := H
                  replace H : (if t229 = true then (some (!(decide (a0 < 160)))) else (some (!false))) = some r := H
                  have A147 := Aside0.mk A1470
                  clear A1470
                  by_cases c148 : t229 = true
                  · subst c148
                    have H1 : (some (!(decide (a0 < 160)))) = some r := by rw [if_pos rfl] at H; exact H
                    clear H
                    have H := H1
                    clear H1
                    obtain rfl := Option.some.inj H
                    go_enter Try.func14, Try.ntmps14
                    go_wp2_with (first | ((with_reducible refine gate_callee (f := 35) rfl ?_); refine goesL_ (some 5) rfl rfl Try.func35 (by kernel_rfl) rfl #[] rfl (by (try simp only [List.map_toArray, List.map_cons, List.map_nil]); first | done | rfl | (simp only [List.length_drop, List.length_take]; rfl)) ?_; (with_reducible refine (phalaropelaw04_awake.calls k  true _ A2.out).mono ?_); rintro e w149 ⟨rfl, hb⟩; refine ⟨_, rfl, ?_⟩; have n0_ := Aside0.mk (below_step (by repeat (first | (with_reducible first | exact HB.out | apply below_alloc | apply pw_below_drewN | apply below_drew1) | exact HB.out)) hb); clear HB; have HB := n0_; clear n0_; (try clear hb); (try clear hb2); (try clear hk); (try clear hi)) | (go_at_call 38; (with_reducible refine (ucs_May.calls a0 false _ A129.out).mono ?_); rintro e w150 ⟨rfl, hb⟩; have n0_ := Aside0.mk (below_step (by repeat (first | (with_reducible first | exact HB.out | apply below_alloc | apply pw_below_drewN | apply below_drew1) | exact HB.out)) hb); clear HB; have HB := n0_; clear n0_; (try clear hb); (try clear hb2); (try clear hk); (try clear hi)) | (go_at_call 38; (with_reducible refine (ucs_May.calls a0 true _ A147.out).mono ?_); rintro e w151 ⟨rfl, hb⟩; have n0_ := Aside0.mk (below_step (by repeat (first | (with_reducible first | exact HB.out | apply below_alloc | apply pw_below_drewN | apply below_drew1) | exact HB.out)) hb); clear HB; have HB := n0_; clear n0_; (try clear hb); (try clear hb2); (try clear hk); (try clear hi)))
                    go_ret
                    first | exact absurd (show some true = some false from A2.out.symm.trans A129.out) (by decide) | exact absurd (show some false = some true from A2.out.symm.trans A129.out) (by decide) | exact absurd (show some true = some false from A2.out.symm.trans A131.out) (by decide) | exact absurd (show some false = some true from A2.out.symm.trans A131.out) (by decide) | exact absurd (show some true = some false from A2.out.symm.trans A147.out) (by decide) | exact absurd (show some false = some true from A2.out.symm.trans A147.out) (by decide) | exact absurd (show some true = some false from A129.out.symm.trans A131.out) (by decide) | exact absurd (show some false = some true from A129.out.symm.trans A131.out) (by decide) | exact absurd (show some true = some false from A129.out.symm.trans A147.out) (by decide) | exact absurd (show some false = some true from A129.out.symm.trans A147.out) (by decide) | exact absurd (show some true = some false from A131.out.symm.trans A147.out) (by decide) | exact absurd (show some false = some true from A131.out.symm.trans A147.out) (by decide) | exact ⟨by first | rfl | (simp [errW_none, errW_some] <;> rfl) | (simp [*, errW_none, errW_some] <;> rfl), by repeat (first | (with_reducible first | exact HB.out | apply below_alloc | apply pw_below_drewN | apply below_drew1) | exact HB.out)⟩
                  · replace c148 := Bool.eq_false_iff.mpr c148
                    subst c148
                    have H1 : (some (!false)) = some r := by rw [if_neg (show ¬ (false = true) by decide)] at H; exact H
                    clear H
                    have H := H1
                    clear H1
                    obtain rfl := Option.some.inj H
                    go_enter Try.func14, Try.ntmps14
                    go_wp2_with (first | ((with_reducible refine gate_callee (f := 35) rfl ?_); refine goesL_ (some 5) rfl rfl Try.func35 (by kernel_rfl) rfl #[] rfl (by (try simp only [List.map_toArray, List.map_cons, List.map_nil]); first | done | rfl | (simp only [List.length_drop, List.length_take]; rfl)) ?_; (with_reducible refine (phalaropelaw04_awake.calls k  true _ A2.out).mono ?_); rintro e w152 ⟨rfl, hb⟩; refine ⟨_, rfl, ?_⟩; have n0_ := Aside0.mk (below_step (by repeat (first | (with_reducible first | exact HB.out | apply below_alloc | apply pw_below_drewN | apply below_drew1) | exact HB.out)) hb); clear HB; have HB := n0_; clear n0_; (try clear hb); (try clear hb2); (try clear hk); (try clear hi)) | (go_at_call 38; (with_reducible refine (ucs_May.calls a0 false _ A129.out).mono ?_); rintro e w153 ⟨rfl, hb⟩; have n0_ := Aside0.mk (below_step (by repeat (first | (with_reducible first | exact HB.out | apply below_alloc | apply pw_below_drewN | apply below_drew1) | exact HB.out)) hb); clear HB; have HB := n0_; clear n0_; (try clear hb); (try clear hb2); (try clear hk); (try clear hi)) | (go_at_call 38; (with_reducible refine (ucs_May.calls a0 false _ A147.out).mono ?_); rintro e w154 ⟨rfl, hb⟩; have n0_ := Aside0.mk (below_step (by repeat (first | (with_reducible first | exact HB.out | apply below_alloc | apply pw_below_drewN | apply below_drew1) | exact HB.out)) hb); clear HB; have HB := n0_; clear n0_; (try clear hb); (try clear hb2); (try clear hk); (try clear hi)))
                    go_ret
                    first | exact absurd (show some true = some false from A2.out.symm.trans A129.out) (by decide) | exact absurd (show some false = some true from A2.out.symm.trans A129.out) (by decide) | exact absurd (show some true = some false from A2.out.symm.trans A131.out) (by decide) | exact absurd (show some false = some true from A2.out.symm.trans A131.out) (by decide) | exact absurd (show some true = some false from A2.out.symm.trans A147.out) (by decide) | exact absurd (show some false = some true from A2.out.symm.trans A147.out) (by decide) | exact absurd (show some true = some false from A129.out.symm.trans A131.out) (by decide) | exact absurd (show some false = some true from A129.out.symm.trans A131.out) (by decide) | exact absurd (show some true = some false from A129.out.symm.trans A147.out) (by decide) | exact absurd (show some false = some true from A129.out.symm.trans A147.out) (by decide) | exact absurd (show some true = some false from A131.out.symm.trans A147.out) (by decide) | exact absurd (show some false = some true from A131.out.symm.trans A147.out) (by decide) | exact ⟨by first | rfl | (simp [errW_none, errW_some] <;> rfl) | (simp [*, errW_none, errW_some] <;> rfl), by repeat (first | (with_reducible first | exact HB.out | apply below_alloc | apply pw_below_drewN | apply below_drew1) | exact HB.out)⟩
                · exact absurd rfl c146
            · replace c128 := Bool.eq_false_iff.mpr c128
              subst c128
              have H1 : (some false) = some r := by rw [if_neg (show ¬ (false = true) by decide)] at H; exact H
              clear H
              have H := H1
              clear H1
              obtain rfl := Option.some.inj H
              go_enter Try.func14, Try.ntmps14
              go_wp2_with (first | ((with_reducible refine gate_callee (f := 35) rfl ?_); refine goesL_ (some 5) rfl rfl Try.func35 (by kernel_rfl) rfl #[] rfl (by (try simp only [List.map_toArray, List.map_cons, List.map_nil]); first | done | rfl | (simp only [List.length_drop, List.length_take]; rfl)) ?_; (with_reducible refine (phalaropelaw04_awake.calls k  false _ A2.out).mono ?_); rintro e w157 ⟨rfl, hb⟩; refine ⟨_, rfl, ?_⟩; have n0_ := Aside0.mk (below_step (by repeat (first | (with_reducible first | exact HB.out | apply below_alloc | apply pw_below_drewN | apply below_drew1) | exact HB.out)) hb); clear HB; have HB := n0_; clear n0_; (try clear hb); (try clear hb2); (try clear hk); (try clear hi)))
              go_ret
              first | exact absurd (show some true = some false from A2.out.symm.trans A129.out) (by decide) | exact absurd (show some false = some true from A2.out.symm.trans A129.out) (by decide) | exact ⟨by first | rfl | (simp [errW_none, errW_some] <;> rfl) | (simp [*, errW_none, errW_some] <;> rfl), by repeat (first | (with_reducible first | exact HB.out | apply below_alloc | apply pw_below_drewN | apply below_drew1) | exact HB.out)⟩
        · rw [if_neg c96] at H
          have c96b0 : decide (65536 ≤ a0) = false := decide_eq_false c96
          clear c96
          by_cases c158 : t209 = true
          · subst c158
            have H1 : ((ucs_May.f a0).bind fun t230 => (if t230 = true then ((ucs_May.f (wrap64 (a0 + 1))).bind fun t231 => (if ((!t231) == false) = true then ((ucs_May.f a0).bind fun t232 => (if t232 = true then (some (!(decide (a0 < 160)))) else (some (!false)))) else (some false))) else (if (false == false) = true then ((ucs_May.f a0).bind fun t233 => (if t233 = true then (some (!(decide (a0 < 160)))) else (some (!false)))) else (some false)))) = some r := by rw [if_pos rfl] at H; exact H
            clear H
            have H := H1
            clear H1
            replace H := Option.bind_eq_some_iff.mp H
            obtain ⟨t230, A1590, H⟩ := H
            replace H : (if t230 = true then ((ucs_May.f (wrap64 (a0 + 1))).bind fun t231 => (if ((!t231) == false) = true then ((ucs_May.f a0).bind fun t232 => (if t232 = true then (some (!(decide (a0 < 160)))) else (some (!false)))) else (some false))) else (if (false == false) = true then ((ucs_May.f a0).bind fun t233 => (if t233 = true then (some (!(decide (a0 < 160)))) else (some (!false)))) else (some false))) = some r := H
            have A159 := Aside0.mk A1590
            clear A1590
            by_cases c160 : t230 = true
            · subst c160
              have H1 : ((ucs_May.f (wrap64 (a0 + 1))).bind fun t231 => (if ((!t231) == false) = true then ((ucs_May.f a0).bind fun t232 => (if t232 = true then (some (!(decide (a0 < 160)))) else (some (!false)))) else (some false))) = some r := by rw [if_pos rfl] at H; exact H
              clear H
              have H := H1
              clear H1
              replace H := Option.bind_eq_some_iff.mp H
              obtain ⟨t231, A1610, H⟩ := H
              replace H : (if ((!t231) == false) = true then ((ucs_May.f a0).bind fun t232 => (if t232 = true then (some (!(decide (a0 < 160)))) else (some (!false)))) else (some false)) = some r := H
              have A161 := Aside0.mk A1610
              clear A1610
              by_cases c162 : ((!t231) == false) = true
              · rw [if_pos c162] at H
                have c162b0 : ((!t231) == false) = true := c162
                (try (have c162b1 : decide ((!t231) = false) = true := by simpa using c162))
                (try (have c162b2 : ((!t231) == false) = true := by simpa using c162))
                clear c162
                replace H := Option.bind_eq_some_iff.mp H
                obtain ⟨t232, A1630, H⟩ := H
                replace H : (if t232 = true then (some (!(decide (a0 < 160)))) else (some (!false))) = some r := H
                have A163 := Aside0.mk A1630
                clear A1630
                by_cases c164 : t232 = true
                · subst c164
                  have H1 : (some (!(decide (a0 < 160)))) = some r := by rw [if_pos rfl] at H; exact H
                  clear H
                  have H := H1
                  clear H1
                  obtain rfl := Option.some.inj H
                  go_enter Try.func14, Try.ntmps14
                  go_wp2_with (first | ((with_reducible refine gate_callee (f := 35) rfl ?_); refine goesL_ (some 5) rfl rfl Try.func35 (by kernel_rfl) rfl #[] rfl (by (try simp only [List.map_toArray, List.map_cons, List.map_nil]); first | done | rfl | (simp only [List.length_drop, List.length_take]; rfl)) ?_; (with_reducible refine (phalaropelaw04_awake.calls k  true _ A2.out).mono ?_); rintro e w165 ⟨rfl, hb⟩; refine ⟨_, rfl, ?_⟩; have n0_ := Aside0.mk (below_step (by repeat (first | (with_reducible first | exact HB.out | apply below_alloc | apply pw_below_drewN | apply below_drew1) | exact HB.out)) hb); clear HB; have HB := n0_; clear n0_; (try clear hb); (try clear hb2); (try clear hk); (try clear hi)) | (go_at_call 38; (with_reducible refine (ucs_May.calls a0 true _ A159.out).mono ?_); rintro e w166 ⟨rfl, hb⟩; have n0_ := Aside0.mk (below_step (by repeat (first | (with_reducible first | exact HB.out | apply below_alloc | apply pw_below_drewN | apply below_drew1) | exact HB.out)) hb); clear HB; have HB := n0_; clear n0_; (try clear hb); (try clear hb2); (try clear hk); (try clear hi)) | (go_at_call 38; (with_reducible refine (ucs_May.calls (wrap64 (a0 + 1)) t231 _ A161.out).mono ?_); rintro e w167 ⟨rfl, hb⟩; have n0_ := Aside0.mk (below_step (by repeat (first | (with_reducible first | exact HB.out | apply below_alloc | apply pw_below_drewN | apply below_drew1) | exact HB.out)) hb); clear HB; have HB := n0_; clear n0_; (try clear hb); (try clear hb2); (try clear hk); (try clear hi)) | (go_at_call 38; (with_reducible refine (ucs_May.calls a0 true _ A163.out).mono ?_); rintro e w168 ⟨rfl, hb⟩; have n0_ := Aside0.mk (below_step (by repeat (first | (with_reducible first | exact HB.out | apply below_alloc | apply pw_below_drewN | apply below_drew1) | exact HB.out)) hb); clear HB; have HB := n0_; clear n0_; (try clear hb); (try clear hb2); (try clear hk); (try clear hi)))
                  go_ret
                  first | exact absurd (show some true = some false from A2.out.symm.trans A159.out) (by decide) | exact absurd (show some false = some true from A2.out.symm.trans A159.out) (by decide) | exact absurd (show some true = some false from A2.out.symm.trans A161.out) (by decide) | exact absurd (show some false = some true from A2.out.symm.trans A161.out) (by decide) | exact absurd (show some true = some false from A2.out.symm.trans A163.out) (by decide) | exact absurd (show some false = some true from A2.out.symm.trans A163.out) (by decide) | exact absurd (show some true = some false from A159.out.symm.trans A161.out) (by decide) | exact absurd (show some false = some true from A159.out.symm.trans A161.out) (by decide) | exact absurd (show some true = some false from A159.out.symm.trans A163.out) (by decide) | exact absurd (show some false = some true from A159.out.symm.trans A163.out) (by decide) | exact absurd (show some true = some false from A161.out.symm.trans A163.out) (by decide) | exact absurd (show some false = some true from A161.out.symm.trans A163.out) (by decide) | exact ⟨by first | rfl | (simp [errW_none, errW_some] <;> rfl) | (simp [*, errW_none, errW_some] <;> rfl), by repeat (first | (with_reducible first | exact HB.out | apply below_alloc | apply pw_below_drewN | apply below_drew1) | exact HB.out)⟩
                · replace c164 := Bool.eq_false_iff.mpr c164
                  subst c164
                  have H1 : (some (!false)) = some r := by rw [if_neg (show ¬ (false = true) by decide)] at H; exact H
                  clear H
                  have H := H1
                  clear H1
                  obtain rfl := Option.some.inj H
                  go_enter Try.func14, Try.ntmps14
                  go_wp2_with (first | ((with_reducible refine gate_callee (f := 35) rfl ?_); refine goesL_ (some 5) rfl rfl Try.func35 (by kernel_rfl) rfl #[] rfl (by (try simp only [List.map_toArray, List.map_cons, List.map_nil]); first | done | rfl | (simp only [List.length_drop, List.length_take]; rfl)) ?_; (with_reducible refine (phalaropelaw04_awake.calls k  true _ A2.out).mono ?_); rintro e w169 ⟨rfl, hb⟩; refine ⟨_, rfl, ?_⟩; have n0_ := Aside0.mk (below_step (by repeat (first | (with_reducible first | exact HB.out | apply below_alloc | apply pw_below_drewN | apply below_drew1) | exact HB.out)) hb); clear HB; have HB := n0_; clear n0_; (try clear hb); (try clear hb2); (try clear hk); (try clear hi)) | (go_at_call 38; (with_reducible refine (ucs_May.calls a0 true _ A159.out).mono ?_); rintro e w170 ⟨rfl, hb⟩; have n0_ := Aside0.mk (below_step (by repeat (first | (with_reducible first | exact HB.out | apply below_alloc | apply pw_below_drewN | apply below_drew1) | exact HB.out)) hb); clear HB; have HB := n0_; clear n0_; (try clear hb); (try clear hb2); (try clear hk); (try clear hi)) | (go_at_call 38; (with_reducible refine (ucs_May.calls (wrap64 (a0 + 1)) t231 _ A161.out).mono ?_); rintro e w171 ⟨rfl, hb⟩; have n0_ := Aside0.mk (below_step (by repeat (first | (with_reducible first | exact HB.out | apply below_alloc | apply pw_below_drewN | apply below_drew1) | exact HB.out)) hb); clear HB; have HB := n0_; clear n0_; (try clear hb); (try clear hb2); (try clear hk); (try clear hi)) | (go_at_call 38; (with_reducible refine (ucs_May.calls a0 false _ A163.out).mono ?_); rintro e w172 ⟨rfl, hb⟩; have n0_ := Aside0.mk (below_step (by repeat (first | (with_reducible first | exact HB.out | apply below_alloc | apply pw_below_drewN | apply below_drew1) | exact HB.out)) hb); clear HB; have HB := n0_; clear n0_; (try clear hb); (try clear hb2); (try clear hk); (try clear hi)))
                  go_ret
                  first | exact absurd (show some true = some false from A2.out.symm.trans A159.out) (by decide) | exact absurd (show some false = some true from A2.out.symm.trans A159.out) (by decide) | exact absurd (show some true = some false from A2.out.symm.trans A161.out) (by decide) | exact absurd (show some false = some true from A2.out.symm.trans A161.out) (by decide) | exact absurd (show some true = some false from A2.out.symm.trans A163.out) (by decide) | exact absurd (show some false = some true from A2.out.symm.trans A163.out) (by decide) | exact absurd (show some true = some false from A159.out.symm.trans A161.out) (by decide) | exact absurd (show some false = some true from A159.out.symm.trans A161.out) (by decide) | exact absurd (show some true = some false from A159.out.symm.trans A163.out) (by decide) | exact absurd (show some false = some true from A159.out.symm.trans A163.out) (by decide) | exact absurd (show some true = some false from A161.out.symm.trans A163.out) (by decide) | exact absurd (show some false = some true from A161.out.symm.trans A163.out) (by decide) | exact ⟨by first | rfl | (simp [errW_none, errW_some] <;> rfl) | (simp [*, errW_none, errW_some] <;> rfl), by repeat (first | (with_reducible first | exact HB.out | apply below_alloc | apply pw_below_drewN | apply below_drew1) | exact HB.out)⟩
              · rw [if_neg c162] at H
                have c162b0 : ((!t231) == false) = false := by simpa using c162
                (try (have c162b1 : decide ((!t231) = false) = false := by simpa using c162))
                (try (have c162b2 : ((!t231) == false) = false := by simpa using c162))
                (try (have c162b3 : ¬ ((!t231) = false) := by simpa using c162))
                clear c162
                obtain rfl := Option.some.inj H
                go_enter Try.func14, Try.ntmps14
                go_wp2_with (first | ((with_reducible refine gate_callee (f := 35) rfl ?_); refine goesL_ (some 5) rfl rfl Try.func35 (by kernel_rfl) rfl #[] rfl (by (try simp only [List.map_toArray, List.map_cons, List.map_nil]); first | done | rfl | (simp only [List.length_drop, List.length_take]; rfl)) ?_; (with_reducible refine (phalaropelaw04_awake.calls k  true _ A2.out).mono ?_); rintro e w173 ⟨rfl, hb⟩; refine ⟨_, rfl, ?_⟩; have n0_ := Aside0.mk (below_step (by repeat (first | (with_reducible first | exact HB.out | apply below_alloc | apply pw_below_drewN | apply below_drew1) | exact HB.out)) hb); clear HB; have HB := n0_; clear n0_; (try clear hb); (try clear hb2); (try clear hk); (try clear hi)) | (go_at_call 38; (with_reducible refine (ucs_May.calls a0 true _ A159.out).mono ?_); rintro e w174 ⟨rfl, hb⟩; have n0_ := Aside0.mk (below_step (by repeat (first | (with_reducible first | exact HB.out | apply below_alloc | apply pw_below_drewN | apply below_drew1) | exact HB.out)) hb); clear HB; have HB := n0_; clear n0_; (try clear hb); (try clear hb2); (try clear hk); (try clear hi)) | (go_at_call 38; (with_reducible refine (ucs_May.calls (wrap64 (a0 + 1)) t231 _ A161.out).mono ?_); rintro e w175 ⟨rfl, hb⟩; have n0_ := Aside0.mk (below_step (by repeat (first | (with_reducible first | exact HB.out | apply below_alloc | apply pw_below_drewN | apply below_drew1) | exact HB.out)) hb); clear HB; have HB := n0_; clear n0_; (try clear hb); (try clear hb2); (try clear hk); (try clear hi)))
                go_ret
                first | exact absurd (show some true = some false from A2.out.symm.trans A159.out) (by decide) | exact absurd (show some false = some true from A2.out.symm.trans A159.out) (by decide) | exact absurd (show some true = some false from A2.out.symm.trans A161.out) (by decide) | exact absurd (show some false = some true from A2.out.symm.trans A161.out) (by decide) | exact absurd (show some true = some false from A2.out.symm.trans A163.out) (by decide) | exact absurd (show some false = some true from A2.out.symm.trans A163.out) (by decide) | exact absurd (show some true = some false from A159.out.symm.trans A161.out) (by decide) | exact absurd (show some false = some true from A159.out.symm.trans A161.out) (by decide) | exact absurd (show some true = some false from A159.out.symm.trans A163.out) (by decide) | exact absurd (show some false = some true from A159.out.symm.trans A163.out) (by decide) | exact absurd (show some true = some false from A161.out.symm.trans A163.out) (by decide) | exact absurd (show some false = some true from A161.out.symm.trans A163.out) (by decide) | exact ⟨by first | rfl | (simp [errW_none, errW_some] <;> rfl) | (simp [*, errW_none, errW_some] <;> rfl), by repeat (first | (with_reducible first | exact HB.out | apply below_alloc | apply pw_below_drewN | apply below_drew1) | exact HB.out)⟩
            · replace c160 := Bool.eq_false_iff.mpr c160
              subst c160
              have H1 : (if (false == false) = true then ((ucs_May.f a0).bind fun t233 => (if t233 = true then (some (!(decide (a0 < 160)))) else (some (!false)))) else (some false)) = some r := by rw [if_neg (show ¬ (false = true) by decide)] at H; exact H
              clear H
              have H := H1
              clear H1
              by_cases c176 : (false == false) = true
              · rw [if_pos c176] at H
                have c176b0 : (false == false) = true := c176
                (try (have c176b1 : decide (false = false) = true := by simp))
                (try (have c176b2 : (false == false) = true := by simp))
                clear c176
                replace H := Option.bind_eq_some_iff.mp H
                obtain ⟨t233, A1770, H⟩ := H
                replace H : (if t233 = true then (some (!(decide (a0 < 160)))) else (some (!false))) = some r := H
                have A177 := Aside0.mk A1770
                clear A1770
                by_cases c178 : t233 = true
                · subst c178
                  have H1 : (some (!(decide (a0 < 160)))) = some r := by rw [if_pos rfl] at H; exact H
                  clear H
                  have H := H1
                  clear H1
                  obtain rfl := Option.some.inj H
                  go_enter Try.func14, Try.ntmps14
                  go_wp2_with (first | ((with_reducible refine gate_callee (f := 35) rfl ?_); refine goesL_ (some 5) rfl rfl Try.func35 (by kernel_rfl) rfl #[] rfl (by (try simp only [List.map_toArray, List.map_cons, List.map_nil]); first | done | rfl | (simp only [List.length_drop, List.length_take]; rfl)) ?_; (with_reducible refine (phalaropelaw04_awake.calls k  true _ A2.out).mono ?_); rintro e w179 ⟨rfl, hb⟩; refine ⟨_, rfl, ?_⟩; have n0_ := Aside0.mk (below_step (by repeat (first | (with_reducible first | exact HB.out | apply below_alloc | apply pw_below_drewN | apply below_drew1) | exact HB.out)) hb); clear HB; have HB := n0_; clear n0_; (try clear hb); (try clear hb2); (try clear hk); (try clear hi)) | (go_at_call 38; (with_reducible refine (ucs_May.calls a0 false _ A159.out).mono ?_); rintro e w180 ⟨rfl, hb⟩; have n0_ := Aside0.mk (below_step (by repeat (first | (with_reducible first | exact HB.out | apply below_alloc | apply pw_below_drewN | apply below_drew1) | exact HB.out)) hb); clear HB; have HB := n0_; clear n0_; (try clear hb); (try clear hb2); (try clear hk); (try clear hi)) | (go_at_call 38; (with_reducible refine (ucs_May.calls a0 true _ A177.out).mono ?_); rintro e w181 ⟨rfl, hb⟩; have n0_ := Aside0.mk (below_step (by repeat (first | (with_reducible first | exact HB.out | apply below_alloc | apply pw_below_drewN | apply below_drew1) | exact HB.out)) hb); clear HB; have HB := n0_; clear n0_; (try clear hb); (try clear hb2); (try clear hk); (try clear hi)))
                  go_ret
                  first | exact absurd (show some true = some false from A2.out.symm.trans A159.out) (by decide) | exact absurd (show some false = some true from A2.out.symm.trans A159.out) (by decide) | exact absurd (show some true = some false from A2.out.symm.trans A161.out) (by decide) | exact absurd (show some false = some true from A2.out.symm.trans A161.out) (by decide) | exact absurd (show some true = some false from A2.out.symm.trans A177.out) (by decide) | exact absurd (show some false = some true from A2.out.symm.trans A177.out) (by decide) | exact absurd (show some true = some false from A159.out.symm.trans A161.out) (by decide) | exact absurd (show some false = some true from A159.out.symm.trans A161.out) (by decide) | exact absurd (show some true = some false from A159.out.symm.trans A177.out) (by decide) | exact absurd (show some false = some true from A159.out.symm.trans A177.out) (by decide) | exact absurd (show some true = some false from A161.out.symm.trans A177.out) (by decide) | exact absurd (show some false = some true from A161.out.symm.trans A177.out) (by decide) | exact ⟨by first | rfl | (simp [errW_none, errW_some] <;> rfl) | (simp [*, errW_none, errW_some] <;> rfl), by repeat (first | (with_reducible first | exact HB.out | apply below_alloc | apply pw_below_drewN | apply below_drew1) | exact HB.out)⟩
                · replace c178 := Bool.eq_false_iff.mpr c178
                  subst c178
                  have H1 : (some (!false)) = some r := by rw [if_neg (show ¬ (false = true) by decide)] at H; exact H
                  clear H
                  have H := H1
                  clear H1
                  obtain rfl := Option.some.inj H
                  go_enter Try.func14, Try.ntmps14
                  go_wp2_with (first | ((with_reducible refine gate_callee (f := 35) rfl ?_); refine goesL_ (some 5) rfl rfl Try.func35 (by kernel_rfl) rfl #[] rfl (by (try simp only [List.map_toArray, List.map_cons, List.map_nil]); first | done | rfl | (simp only [List.length_drop, List.length_take]; rfl)) ?_; (with_reducible refine (phalaropelaw04_awake.calls k  true _ A2.out).mono ?_); rintro e w182 ⟨rfl, hb⟩; refine ⟨_, rfl, ?_⟩; have n0_ := Aside0.mk (below_step (by repeat (first | (with_reducible first | exact HB.out | apply below_alloc | apply pw_below_drewN | apply below_drew1) | exact HB.out)) hb); clear HB; have HB := n0_; clear n0_; (try clear hb); (try clear hb2); (try clear hk); (try clear hi)) | (go_at_call 38; (with_reducible refine (ucs_May.calls a0 false _ A159.out).mono ?_); rintro e w183 ⟨rfl, hb⟩; have n0_ := Aside0.mk (below_step (by repeat (first | (with_reducible first | exact HB.out | apply below_alloc | apply pw_below_drewN | apply below_drew1) | exact HB.out)) hb); clear HB; have HB := n0_; clear n0_; (try clear hb); (try clear hb2); (try clear hk); (try clear hi)) | (go_at_call 38; (with_reducible refine (ucs_May.calls a0 false _ A177.out).mono ?_); rintro e w184 ⟨rfl, hb⟩; have n0_ := Aside0.mk (below_step (by repeat (first | (with_reducible first | exact HB.out | apply below_alloc | apply pw_below_drewN | apply below_drew1) | exact HB.out)) hb); clear HB; have HB := n0_; clear n0_; (try clear hb); (try clear hb2); (try clear hk); (try clear hi)))
                  go_ret
                  first | exact absurd (show some true = some false from A2.out.symm.trans A159.out) (by decide) | exact absurd (show some false = some true from A2.out.symm.trans A159.out) (by decide) | exact absurd (show some true = some false from A2.out.symm.trans A161.out) (by decide) | exact absurd (show some false = some true from A2.out.symm.trans A161.out) (by decide) | exact absurd (show some true = some false from A2.out.symm.trans A177.out) (by decide) | exact absurd (show some false = some true from A2.out.symm.trans A177.out) (by decide) | exact absurd (show some true = some false from A159.out.symm.trans A161.out) (by decide) | exact absurd (show some false = some true from A159.out.symm.trans A161.out) (by decide) | exact absurd (show some true = some false from A159.out.symm.trans A177.out) (by decide) | exact absurd (show some false = some true from A159.out.symm.trans A177.out) (by decide) | exact absurd (show some true = some false from A161.out.symm.trans A177.out) (by decide) | exact absurd (show some false = some true from A161.out.symm.trans A177.out) (by decide) | exact ⟨by first | rfl | (simp [errW_none, errW_some] <;> rfl) | (simp [*, errW_none, errW_some] <;> rfl), by repeat (first | (with_reducible first | exact HB.out | apply below_alloc | apply pw_below_drewN | apply below_drew1) | exact HB.out)⟩
              · exact absurd rfl c176
          · replace c158 := Bool.eq_false_iff.mpr c158
            subst c158
            have H1 : (some false) = some r := by rw [if_neg (show ¬ (false = true) by decide)] at H; exact H
            clear H
            have H := H1
            clear H1
            obtain rfl := Option.some.inj H
            go_enter Try.func14, Try.ntmps14
            go_wp2_with (first | ((with_reducible refine gate_callee (f := 35) rfl ?_); refine goesL_ (some 5) rfl rfl Try.func35 (by kernel_rfl) rfl #[] rfl (by (try simp only [List.map_toArray, List.map_cons, List.map_nil]); first | done | rfl | (simp only [List.length_drop, List.length_take]; rfl)) ?_; (with_reducible refine (phalaropelaw04_awake.calls k  false _ A2.out).mono ?_); rintro e w187 ⟨rfl, hb⟩; refine ⟨_, rfl, ?_⟩; have n0_ := Aside0.mk (below_step (by repeat (first | (with_reducible first | exact HB.out | apply below_alloc | apply pw_below_drewN | apply below_drew1) | exact HB.out)) hb); clear HB; have HB := n0_; clear n0_; (try clear hb); (try clear hb2); (try clear hk); (try clear hi)))
            go_ret
            first | exact absurd (show some true = some false from A2.out.symm.trans A159.out) (by decide) | exact absurd (show some false = some true from A2.out.symm.trans A159.out) (by decide) | exact ⟨by first | rfl | (simp [errW_none, errW_some] <;> rfl) | (simp [*, errW_none, errW_some] <;> rfl), by repeat (first | (with_reducible first | exact HB.out | apply below_alloc | apply pw_below_drewN | apply below_drew1) | exact HB.out)⟩

/-- THE ONE PURE STATEMENT of phalaropelaw04_UcsEnds: yours. -/
def phalaropelaw04_UcsEnds.Pure : Prop := ∀ (a0 : Int), (Lit.int .i64 a0).wf = true → ∃ k, phalaropelaw04_UcsEnds.f k a0 = some true
theorem phalaropelaw04_UcsEnds.walk (P : phalaropelaw04_UcsEnds.Pure) (a0 : Int) (w : World) (w0 : (Lit.int .i64 a0).wf = true) :
    Calls Try.prog 14 #[.int .i64 a0] w fun e w' => e = .returned (.bool true) ∧ Below w.heap.size w w' := by
  obtain ⟨k, h⟩ := P a0 w0
  refine (phalaropelaw04_UcsEnds.calls k a0 true w h).mono ?_
  rintro e w' ⟨rfl, hd⟩
  exact ⟨rfl, hd⟩

end Go.Proofs.Ytjjmfmlgemdjkaa.PUcs
