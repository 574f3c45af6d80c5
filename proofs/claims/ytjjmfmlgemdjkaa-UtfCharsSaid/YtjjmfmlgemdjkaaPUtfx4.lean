-- PRINTED by print.py (a twelfth state) out of the translation. Not trusted: Lean checks it.
import Derived.Test.YtjjmfmlgemdjkaaPUtfx0
import Derived.Test.YtjjmfmlgemdjkaaPUtfx1
import Derived.Test.YtjjmfmlgemdjkaaPUtfx2
namespace Go.Proofs.Ytjjmfmlgemdjkaa.PUtf
open Go.RowKit Go.Proofs.YtjjmfmlgemdjkaaW.PrintWords Go.Proofs.YtjjmfmlgemdjkaaW.PrintLast Go.Proofs.YtjjmfmlgemdjkaaW.PrintMore
attribute [local go_sem] max2_int min2_int max_two min_two max_three min_three max_four min_four   -- for this text's walks alone
set_option linter.unusedVariables false
set_option linter.unusedSimpArgs false

/-! ### phalaropelaw01_UtfBack: function 4 -/
mutual
def phalaropelaw01_UtfBack.j0 : Nat → List Int → ByteArray → Bool → Bool → Option (Bool)
  | 0, _, _, _, _ => none
  | k + 1, x0, x1, x5, x22 => if x22 = true then (some x5) else ((utf_Text.f x0).bind fun bt182 => (if bt182.2 = true then ((utf_Chars.f bt182.1).bind fun bt184 => (if bt184.2 = true then ((phalaroperef01_Same.f k bt184.1 x0).bind fun t188 => (if t188 = true then (phalaropelaw01_UtfBack.j1 k x1 x5) else (some false))) else (some false))) else (phalaropelaw01_UtfBack.j1 k x1 x5)))
def phalaropelaw01_UtfBack.j1 : Nat → ByteArray → Bool → Option (Bool)
  | 0, _, _ => none
  | k + 1, x1, x5 => (utf_Chars.f x1).bind fun bt189 => (if bt189.2 = true then ((utf_Text.f bt189.1).bind fun bt193 => (if x5 = true then (if bt193.2 = true then (if bt193.1.toList = x1.toList then ((utf_Bad.f x1).bind fun t195 => (some (t195 == (x1.size : Int)))) else (some false)) else (some false)) else (some false))) else (if x5 = true then ((utf_Bad.f x1).bind fun t196 => (some (decide (t196 < (x1.size : Int))))) else (some false)))
end
def phalaropelaw01_UtfBack.f (k : Nat) (l0 : List Int) (a1 : ByteArray) : Option (Bool) := (phalaropelaw01_awake.f).bind fun t181 => (if (l0.length : Int) > 500 then (phalaropelaw01_UtfBack.j0 k l0 a1 t181 true) else (phalaropelaw01_UtfBack.j0 k l0 a1 t181 (decide ((a1.size : Int) > 2000))))
theorem phalaropelaw01_UtfBack.mono_l : ∀ k, (∀ y0 y1 y2 y3, LeO (phalaropelaw01_UtfBack.j0 k y0 y1 y2 y3) (phalaropelaw01_UtfBack.j0 (k + 1) y0 y1 y2 y3)) ∧ (∀ y0 y1, LeO (phalaropelaw01_UtfBack.j1 k y0 y1) (phalaropelaw01_UtfBack.j1 (k + 1) y0 y1))
  | 0 => ⟨fun _ _ _ _ r h => by simp [phalaropelaw01_UtfBack.j0] at h, fun _ _ r h => by simp [phalaropelaw01_UtfBack.j1] at h⟩
  | k + 1 => by
    obtain ⟨ih0, ih1⟩ := phalaropelaw01_UtfBack.mono_l k
    refine ⟨?_, ?_⟩
    · intro y0 y1 y2 y3
      unfold phalaropelaw01_UtfBack.j0
      repeat' first
      | (with_reducible exact ih0 _ _ _ _)
      | (with_reducible exact ih1 _ _)
      | (with_reducible exact phalaroperef01_Same.mono _ _ _)
      | (with_reducible exact LeO.refl _)
      | (with_reducible exact LeO.none _)
      | (with_reducible refine LeO.ite ?_ ?_)
      | (with_reducible refine LeO.bind ?_ (fun _ => ?_))
      | exact ih0 _ _ _ _
      | exact ih1 _ _
      | exact phalaroperef01_Same.mono _ _ _
      | exact LeO.none _
      | refine LeO.ite ?_ ?_
      | refine LeO.bind ?_ (fun _ => ?_)
    · intro y0 y1
      unfold phalaropelaw01_UtfBack.j1
      repeat' first
      | (with_reducible exact ih0 _ _ _ _)
      | (with_reducible exact ih1 _ _)
      | (with_reducible exact phalaroperef01_Same.mono _ _ _)
      | (with_reducible exact LeO.refl _)
      | (with_reducible exact LeO.none _)
      | (with_reducible refine LeO.ite ?_ ?_)
      | (with_reducible refine LeO.bind ?_ (fun _ => ?_))
      | exact ih0 _ _ _ _
      | exact ih1 _ _
      | exact phalaroperef01_Same.mono _ _ _
      | exact LeO.none _
      | refine LeO.ite ?_ ?_
      | refine LeO.bind ?_ (fun _ => ?_)
theorem phalaropelaw01_UtfBack.mono : ∀ a0 a1 k, LeO (phalaropelaw01_UtfBack.f k a0 a1) (phalaropelaw01_UtfBack.f (k + 1) a0 a1) := by
  intro a0 a1 k
  obtain ⟨ih0, ih1⟩ := phalaropelaw01_UtfBack.mono_l k
  unfold phalaropelaw01_UtfBack.f
  repeat' first
      | (with_reducible exact ih0 _ _ _ _)
      | (with_reducible exact ih1 _ _)
      | (with_reducible exact phalaroperef01_Same.mono _ _ _)
      | (with_reducible exact LeO.refl _)
      | (with_reducible exact LeO.none _)
      | (with_reducible refine LeO.ite ?_ ?_)
      | (with_reducible refine LeO.bind ?_ (fun _ => ?_))
      | exact ih0 _ _ _ _
      | exact ih1 _ _
      | exact phalaroperef01_Same.mono _ _ _
      | exact LeO.none _
      | refine LeO.ite ?_ ?_
      | refine LeO.bind ?_ (fun _ => ?_)
set_option maxHeartbeats 8000000 in
set_option maxRecDepth 100000 in
theorem phalaropelaw01_UtfBack.calls (k : Nat) (A0 : Option Addr) (c0 : Nat) (l0 : List Int) (a1 : ByteArray) (r : Bool) (w : World) (hr0 : Kd.C (Kd.int .i64) w A0 l0.length l0) (hc0 : l0.length ≤ c0) (h : phalaropelaw01_UtfBack.f k l0 a1 = some r) :
    Calls Try.prog 4 #[.slice A0 l0.length c0, .string a1] w fun e w' => e = .returned (.bool r) ∧ Below w.heap.size w w' := by
  have HR0 := Aside0.mk hr0
  have HC0 := Aside0.mk hc0
  clear hr0 hc0
  have HB := Aside0.mk (Below.refl w.heap.size w)
  have H : ((phalaropelaw01_awake.f).bind fun t181 => (if (l0.length : Int) > 500 then (phalaropelaw01_UtfBack.j0 k l0 a1 t181 true) else (phalaropelaw01_UtfBack.j0 k l0 a1 t181 (decide ((a1.size : Int) > 2000))))) = some r := h
  clear h
  replace H := Option.bind_eq_some_iff.mp H
  obtain ⟨t181, A30, H⟩ := H
  replace H : (if (l0.length : Int) > 500 then (phalaropelaw01_UtfBack.j0 k l0 a1 t181 true) else (phalaropelaw01_UtfBack.j0 k l0 a1 t181 (decide ((a1.size : Int) > 2000)))) = some r := H
  have A3 := Aside0.mk A30
  clear A30
  have HC4 := Aside0.mk H
  clear H
  go_enter Try.func4, Try.ntmps4
  go_upto_region 2 with (first | ((with_reducible refine gate_callee (f := 21) rfl ?_); refine goesL_ (some 14) rfl rfl Try.func21 (by kernel_rfl) rfl #[] rfl (by (try simp only [List.map_toArray, List.map_cons, List.map_nil]); first | done | rfl | (simp only [List.length_drop, List.length_take]; rfl)) ?_; (with_reducible refine (phalaropelaw01_awake.calls  t181 _ A3.out).mono ?_); rintro e w5 ⟨rfl, hb⟩; refine ⟨_, rfl, ?_⟩; have n0_ := Aside0.mk (below_step (by repeat (first | (with_reducible first | exact HB.out | apply below_alloc | apply pw_below_drewN | apply below_drew1) | exact HB.out)) hb); clear HB; have HB := n0_; clear n0_; (try clear hb); (try clear hb2); (try clear hk); (try clear hi)))
  (try simp only [Act.put, List.setIfInBounds_toArray, List.set_cons_zero, List.set_cons_succ])
  go_cut [22] (fun v22 wc => ∃ (kq : Nat) (x22_3 : Bool), v22 = .bool x22_3 ∧ Aside0 (phalaropelaw01_UtfBack.j0 kq l0 a1 t181 x22_3 = some r) ∧ Aside0 (kq ≤ k) ∧ Aside0 (Below w.heap.size w wc))
  case first =>
    have H := HC4.out
    clear HC4
    by_cases c6 : (l0.length : Int) > 500
    · rw [if_pos c6] at H
      have c6b0 : decide (500 < (l0.length : Int)) = true := decide_eq_true c6
      have c6b1 : decide (500 < l0.length) = true := decide_eq_true (by omega)
      clear c6
      (first | rw [c6b0] | (simp only [i64_w, i32_w]; rw [c6b0]) | skip)
      have H' := Aside0.mk H
      clear H
      go_wp2
      go_meet
      case rel => exact ⟨_, (true), (by first | rfl | (simp; done) | (simp [*]; done)), H', ⟨by first | omega | exact Nat.le_refl _⟩, ⟨by repeat (first | (with_reducible first | exact HB.out | apply below_alloc | apply pw_below_drewN | apply below_drew1) | exact HB.out)⟩⟩
    · rw [if_neg c6] at H
      have c6b0 : decide (500 < (l0.length : Int)) = false := decide_eq_false c6
      have c6b1 : decide (500 < l0.length) = false := decide_eq_false (by omega)
      clear c6
      (first | rw [c6b0] | (simp only [i64_w, i32_w]; rw [c6b0]) | skip)
      have H' := Aside0.mk H
      clear H
      go_wp2
      go_meet
      case rel => exact ⟨_, (decide ((a1.size : Int) > 2000)), (by first | rfl | (simp; done) | (simp [*]; done)), H', ⟨by first | omega | exact Nat.le_refl _⟩, ⟨by repeat (first | (with_reducible first | exact HB.out | apply below_alloc | apply pw_below_drewN | apply below_drew1) | exact HB.out)⟩⟩
  case rest =>
    clear HC4
    try clear c2
    try clear p2
    try clear c4
    try clear c6
    try clear c6b0
    try clear c6b1
    obtain ⟨kq, x22_3, rfl, HA, HJ3, HB⟩ := hcut
    cases kq with
    | zero => exact absurd HA.out (by simp [phalaropelaw01_UtfBack.j0])
    | succ kj3 =>
      have H := HA.out
      clear HA
      simp only [phalaropelaw01_UtfBack.j0] at H
      by_cases c7 : x22_3 = true
      · subst c7
        have H1 : (some t181) = some r := by rw [if_pos rfl] at H; exact H
        clear H
        have H := H1
        clear H1
        obtain rfl := Option.some.inj H
        go_wp2
        go_ret
        exact ⟨by first | rfl | (simp [errW_none, errW_some] <;> rfl) | (simp [*, errW_none, errW_some] <;> rfl), by repeat (first | (with_reducible first | exact HB.out | apply below_alloc | apply pw_below_drewN | apply below_drew1) | exact HB.out)⟩
      · replace c7 := Bool.eq_false_iff.mpr c7
        subst c7
        have H1 : ((utf_Text.f l0).bind fun bt182 => (if bt182.2 = true then ((utf_Chars.f bt182.1).bind fun bt184 => (if bt184.2 = true then ((phalaroperef01_Same.f kj3 bt184.1 l0).bind fun t188 => (if t188 = true then (phalaropelaw01_UtfBack.j1 kj3 a1 t181) else (some false))) else (some false))) else (phalaropelaw01_UtfBack.j1 kj3 a1 t181))) = some r := by rw [if_neg (show ¬ (false = true) by decide)] at H; exact H
        clear H
        have H := H1
        clear H1
        replace H := Option.bind_eq_some_iff.mp H
        obtain ⟨⟨t182, t183⟩, A80, H⟩ := H
        replace H : (if t183 = true then ((utf_Chars.f t182).bind fun bt184 => (if bt184.2 = true then ((phalaroperef01_Same.f kj3 bt184.1 l0).bind fun t188 => (if t188 = true then (phalaropelaw01_UtfBack.j1 kj3 a1 t181) else (some false))) else (some false))) else (phalaropelaw01_UtfBack.j1 kj3 a1 t181)) = some r := H
        have A8 := Aside0.mk A80
        clear A80
        have HC9 := Aside0.mk H
        clear H
        go_upto_if 29 with (first | ((with_reducible refine gate_callee (f := 22) rfl ?_); refine goesL_ (some 26) rfl rfl Try.func22 (by kernel_rfl) rfl #[.slice A0 l0.length c0] rfl (by (try simp only [List.map_toArray, List.map_cons, List.map_nil]); first | done | rfl | (simp only [List.length_drop, List.length_take]; rfl)) ?_; (with_reducible refine (utf_Text.calls _ _ l0 t182 t183 _ ?side1 ?side2 A8.out).mono ?_); (case side1 => repeat (first | exact (Kd.C_below HR0.out HB.out) | (with_reducible refine Kd.C_alloc ?_ _) | (with_reducible refine Kd.C_drewN ?_ _) | (with_reducible refine Kd.C_drew ?_))); (case side2 => exact HC0.out); rintro e w10 ⟨rfl, hb⟩; refine ⟨_, rfl, ?_⟩; have n0_ := Aside0.mk (below_step (by repeat (first | (with_reducible first | exact HB.out | apply below_alloc | apply pw_below_drewN | apply below_drew1) | exact HB.out)) hb); clear HB; have HB := n0_; clear n0_; (try clear hb); (try clear hb2); (try clear hk); (try clear hi)))
        (try simp only [Act.put, List.setIfInBounds_toArray, List.set_cons_zero, List.set_cons_succ])
        go_cut [] (fun wc => ∃ (kq : Nat), Aside0 (phalaropelaw01_UtfBack.j1 kq a1 t181 = some r) ∧ Aside0 (kq ≤ kj3) ∧ Aside0 (Below w.heap.size w wc))
        case first =>
          have H := HC9.out
          clear HC9
          by_cases c11 : t183 = true
          · subst c11
            have H1 : ((utf_Chars.f t182).bind fun bt184 => (if bt184.2 = true then ((phalaroperef01_Same.f kj3 bt184.1 l0).bind fun t188 => (if t188 = true then (phalaropelaw01_UtfBack.j1 kj3 a1 t181) else (some false))) else (some false))) = some r := by rw [if_pos rfl] at H; exact H
            clear H
            have H := H1
            clear H1
            replace H := Option.bind_eq_some_iff.mp H
            obtain ⟨⟨t184, t185⟩, A120, H⟩ := H
            replace H : (if t185 = true then ((phalaroperef01_Same.f kj3 t184 l0).bind fun t188 => (if t188 = true then (phalaropelaw01_UtfBack.j1 kj3 a1 t181) else (some false))) else (some false)) = some r := H
            have A12 := Aside0.mk A120
            clear A120
            by_cases c13 : t185 = true
            · subst c13
              have H1 : ((phalaroperef01_Same.f kj3 t184 l0).bind fun t188 => (if t188 = true then (phalaropelaw01_UtfBack.j1 kj3 a1 t181) else (some false))) = some r := by rw [if_pos rfl] at H; exact H
              clear H
              have H := H1
              clear H1
              replace H := Option.bind_eq_some_iff.mp H
              obtain ⟨t188, A140, H⟩ := H
              replace H : (if t188 = true then (phalaropelaw01_UtfBack.j1 kj3 a1 t181) else (some false)) = some r := H
              have A14 := Aside0.mk A140
              clear A140
              by_cases c15 : t188 = true
              · subst c15
                have H1 : (phalaropelaw01_UtfBack.j1 kj3 a1 t181) = some r := by rw [if_pos rfl] at H; exact H
                clear H
                have H := H1
                clear H1
                have H' := Aside0.mk H
                clear H
                go_wp2_with (first | ((with_reducible refine gate_callee (f := 26) rfl ?_); refine goesL_ (some 32) rfl rfl Try.func26 (by kernel_rfl) rfl #[.string t182] rfl (by (try simp only [List.map_toArray, List.map_cons, List.map_nil]); first | done | rfl | (simp only [List.length_drop, List.length_take]; rfl)) ?_; (with_reducible refine (utf_Chars.calls t182 t184 true _ A12.out).mono ?_); rintro e w16 ⟨v186, rfl, ho0, hb⟩; refine ⟨_, rfl, ?_⟩; have n0_ := Aside0.mk (Kd.R_lower ho0 (below_size (by repeat (first | (with_reducible first | exact HB.out | apply below_alloc | apply pw_below_drewN | apply below_drew1) | exact HB.out)))); have n1_ := Aside0.mk (below_step (by repeat (first | (with_reducible first | exact HB.out | apply below_alloc | apply pw_below_drewN | apply below_drew1) | exact HB.out)) hb); clear HB; have HO187 := n0_; have HB := n1_; clear n0_ n1_; (try clear hb); (try clear hb2); (try clear hk); (try clear hi); (try clear ho0); obtain ⟨Ao17, co17, eo17⟩ := Kd.R_slice HO187.out; subst eo17) | (go_at_call 27; (with_reducible refine (phalaroperef01_Same.calls kj3 _ _ t184 _ _ l0 true _ ?side1 ?side2 ?side3 ?side4 A14.out).mono ?_); (case side1 => repeat (first | exact (Kd.R_reads' HO187.out).2.2 | (with_reducible refine Kd.C_alloc ?_ _) | (with_reducible refine Kd.C_drewN ?_ _) | (with_reducible refine Kd.C_drew ?_))); (case side2 => exact (Kd.R_reads' HO187.out).2.1); (case side3 => repeat (first | exact (Kd.C_below HR0.out HB.out) | (with_reducible refine Kd.C_alloc ?_ _) | (with_reducible refine Kd.C_drewN ?_ _) | (with_reducible refine Kd.C_drew ?_))); (case side4 => exact HC0.out); rintro e w' ⟨rfl, ⟨nd, rfl⟩⟩))
                go_meet
                case rel => exact ⟨_, H', ⟨by have := HJ3.out; first | omega | exact Nat.le_refl _⟩, ⟨by repeat (first | (with_reducible first | exact HB.out | apply below_alloc | apply pw_below_drewN | apply below_drew1) | exact HB.out)⟩⟩
              · replace c15 := Bool.eq_false_iff.mpr c15
                subst c15
                have H1 : (some false) = some r := by rw [if_neg (show ¬ (false = true) by decide)] at H; exact H
                clear H
                have H := H1
                clear H1
                obtain rfl := Option.some.inj H
                go_wp2_with (first | ((with_reducible refine gate_callee (f := 26) rfl ?_); refine goesL_ (some 32) rfl rfl Try.func26 (by kernel_rfl) rfl #[.string t182] rfl (by (try simp only [List.map_toArray, List.map_cons, List.map_nil]); first | done | rfl | (simp only [List.length_drop, List.length_take]; rfl)) ?_; (with_reducible refine (utf_Chars.calls t182 t184 true _ A12.out).mono ?_); rintro e w18 ⟨v186, rfl, ho0, hb⟩; refine ⟨_, rfl, ?_⟩; have n0_ := Aside0.mk (Kd.R_lower ho0 (below_size (by repeat (first | (with_reducible first | exact HB.out | apply below_alloc | apply pw_below_drewN | apply below_drew1) | exact HB.out)))); have n1_ := Aside0.mk (below_step (by repeat (first | (with_reducible first | exact HB.out | apply below_alloc | apply pw_below_drewN | apply below_drew1) | exact HB.out)) hb); clear HB; have HO187 := n0_; have HB := n1_; clear n0_ n1_; (try clear hb); (try clear hb2); (try clear hk); (try clear hi); (try clear ho0); obtain ⟨Ao19, co19, eo19⟩ := Kd.R_slice HO187.out; subst eo19) | (go_at_call 27; (with_reducible refine (phalaroperef01_Same.calls kj3 _ _ t184 _ _ l0 false _ ?side1 ?side2 ?side3 ?side4 A14.out).mono ?_); (case side1 => repeat (first | exact (Kd.R_reads' HO187.out).2.2 | (with_reducible refine Kd.C_alloc ?_ _) | (with_reducible refine Kd.C_drewN ?_ _) | (with_reducible refine Kd.C_drew ?_))); (case side2 => exact (Kd.R_reads' HO187.out).2.1); (case side3 => repeat (first | exact (Kd.C_below HR0.out HB.out) | (with_reducible refine Kd.C_alloc ?_ _) | (with_reducible refine Kd.C_drewN ?_ _) | (with_reducible refine Kd.C_drew ?_))); (case side4 => exact HC0.out); rintro e w' ⟨rfl, ⟨nd, rfl⟩⟩))
                go_ret
                exact ⟨by first | rfl | (simp [errW_none, errW_some] <;> rfl) | (simp [*, errW_none, errW_some] <;> rfl), by repeat (first | (with_reducible first | exact HB.out | apply below_alloc | apply pw_below_drewN | apply below_drew1) | exact HB.out)⟩
            · replace c13 := Bool.eq_false_iff.mpr c13
              subst c13
              have H1 : (some false) = some r := by rw [if_neg (show ¬ (false = true) by decide)] at H; exact H
              clear H
              have H := H1
              clear H1
              obtain rfl := Option.some.inj H
              go_wp2_with (first | ((with_reducible refine gate_callee (f := 26) rfl ?_); refine goesL_ (some 32) rfl rfl Try.func26 (by kernel_rfl) rfl #[.string t182] rfl (by (try simp only [List.map_toArray, List.map_cons, List.map_nil]); first | done | rfl | (simp only [List.length_drop, List.length_take]; rfl)) ?_; (with_reducible refine (utf_Chars.calls t182 t184 false _ A12.out).mono ?_); rintro e w20 ⟨v186, rfl, ho0, hb⟩; refine ⟨_, rfl, ?_⟩; have n0_ := Aside0.mk (Kd.R_lower ho0 (below_size (by repeat (first | (with_reducible first | exact HB.out | apply below_alloc | apply pw_below_drewN | apply below_drew1) | exact HB.out)))); have n1_ := Aside0.mk (below_step (by repeat (first | (with_reducible first | exact HB.out | apply below_alloc | apply pw_below_drewN | apply below_drew1) | exact HB.out)) hb); clear HB; have HO187 := n0_; have HB := n1_; clear n0_ n1_; (try clear hb); (try clear hb2); (try clear hk); (try clear hi); (try clear ho0)))
              go_ret
              exact ⟨by first | rfl | (simp [errW_none, errW_some] <;> rfl) | (simp [*, errW_none, errW_some] <;> rfl), by repeat (first | (with_reducible first | exact HB.out | apply below_alloc | apply pw_below_drewN | apply below_drew1) | exact HB.out)⟩
          · replace c11 := Bool.eq_false_iff.mpr c11
            subst c11
            have H1 : (phalaropelaw01_UtfBack.j1 kj3 a1 t181) = some r := by rw [if_neg (show ¬ (false = true) by decide)] at H; exact H
            clear H
            have H := H1
            clear H1
            have H' := Aside0.mk H
            clear H
            go_wp2
            go_meet
            case rel => exact ⟨_, H', ⟨by have := HJ3.out; first | omega | exact Nat.le_refl _⟩, ⟨by repeat (first | (with_reducible first | exact HB.out | apply below_alloc | apply pw_below_drewN | apply below_drew1) | exact HB.out)⟩⟩
        case rest =>
          clear HC9
          try clear c1
          try clear c2
          try clear p2
          try clear c4
          try clear c6
          try clear c6b0
          try clear c6b1
          try clear c7
          try clear c11
          try clear c13
          try clear c15
          try clear p2
          obtain ⟨kq, HA, HJ8, HB⟩ := hcut
          cases kq with
          | zero => exact absurd HA.out (by simp [phalaropelaw01_UtfBack.j1])
          | succ kj8 =>
            have H := HA.out
            clear HA
            simp only [phalaropelaw01_UtfBack.j1] at H
            replace H := Option.bind_eq_some_iff.mp H
            obtain ⟨⟨t189, t190⟩, A210, H⟩ := H
            replace H : (if t190 = true then ((utf_Text.f t189).bind fun bt193 => (if t181 = true then (if bt193.2 = true then (if bt193.1.toList = a1.toList then ((utf_Bad.f a1).bind fun t195 => (some (t195 == (a1.size : Int)))) else (some false)) else (some false)) else (some false))) else (if t181 = true then ((utf_Bad.f a1).bind fun t196 => (some (decide (t196 < (a1.size : Int))))) else (some false))) = some r := H
            have A21 := Aside0.mk A210
            clear A210
            by_cases c22 : t190 = true
            · subst c22
              have H1 : ((utf_Text.f t189).bind fun bt193 => (if t181 = true then (if bt193.2 = true then (if bt193.1.toList = a1.toList then ((utf_Bad.f a1).bind fun t195 => (some (t195 == (a1.size : Int)))) else (some false)) else (some false)) else (some false))) = some r := by rw [if_pos rfl] at H; exact H
              clear H
              have H := H1
              clear H1
              replace H := Option.bind_eq_some_iff.mp H
              obtain ⟨⟨t193, t194⟩, A230, H⟩ := H
              replace H : (if t181 = true then (if t194 = true then (if t193.toList = a1.toList then ((utf_Bad.f a1).bind fun t195 => (some (t195 == (a1.size : Int)))) else (some false)) else (some false)) else (some false)) = some r := H
              have A23 := Aside0.mk A230
              clear A230
              by_cases c24 : t181 = true
              · subst c24
                have H1 : (if t194 = true then (if t193.toList = a1.toList then ((utf_Bad.f a1).bind fun t195 => (some (t195 == (a1.size : Int)))) else (some false)) else (some false)) = some r := by rw [if_pos rfl] at H; exact H
                clear H
                have H := H1
                clear H1
                by_cases c25 : t194 = true
                · subst c25
                  have H1 : (if t193.toList = a1.toList then ((utf_Bad.f a1).bind fun t195 => (some (t195 == (a1.size : Int)))) else (some false)) = some r := by rw [if_pos rfl] at H; exact H
                  clear H
                  have H := H1
                  clear H1
                  by_cases c26 : t193.toList = a1.toList
                  · rw [if_pos c26] at H
                    have c26b0 : (t193.toList == a1.toList) = true := beq_iff_eq.mpr c26
                    have c26b1 : (t193.toList != a1.toList) = false := bne_eq_false_iff_eq.mpr c26
                    clear c26
                    replace H := Option.bind_eq_some_iff.mp H
                    obtain ⟨t195, A270, H⟩ := H
                    replace H : (some (t195 == (a1.size : Int))) = some r := H
                    have A27 := Aside0.mk A270
                    clear A270
                    obtain rfl := Option.some.inj H
                    go_wp2_with (first | ((with_reducible refine gate_callee (f := 26) rfl ?_); refine goesL_ (some 45) rfl rfl Try.func26 (by kernel_rfl) rfl #[.string a1] rfl (by (try simp only [List.map_toArray, List.map_cons, List.map_nil]); first | done | rfl | (simp only [List.length_drop, List.length_take]; rfl)) ?_; (with_reducible refine (utf_Chars.calls a1 t189 true _ A21.out).mono ?_); rintro e w28 ⟨v191, rfl, ho0, hb⟩; refine ⟨_, rfl, ?_⟩; have n0_ := Aside0.mk (Kd.R_lower ho0 (below_size (by repeat (first | (with_reducible first | exact HB.out | apply below_alloc | apply pw_below_drewN | apply below_drew1) | exact HB.out)))); have n1_ := Aside0.mk (below_step (by repeat (first | (with_reducible first | exact HB.out | apply below_alloc | apply pw_below_drewN | apply below_drew1) | exact HB.out)) hb); clear HB; have HO192 := n0_; have HB := n1_; clear n0_ n1_; (try clear hb); (try clear hb2); (try clear hk); (try clear hi); (try clear ho0); obtain ⟨Ao29, co29, eo29⟩ := Kd.R_slice HO192.out; subst eo29) | ((with_reducible refine gate_callee (f := 22) rfl ?_); refine goesL_ (some 60) rfl rfl Try.func22 (by kernel_rfl) rfl #[.slice Ao29 t189.length co29] rfl (by (try simp only [List.map_toArray, List.map_cons, List.map_nil]); first | done | rfl | (simp only [List.length_drop, List.length_take]; rfl)) ?_; (with_reducible refine (utf_Text.calls _ _ t189 t193 true _ ?side1 ?side2 A23.out).mono ?_); (case side1 => repeat (first | exact (Kd.R_reads' HO192.out).2.2 | (with_reducible refine Kd.C_alloc ?_ _) | (with_reducible refine Kd.C_drewN ?_ _) | (with_reducible refine Kd.C_drew ?_))); (case side2 => exact (Kd.R_reads' HO192.out).2.1); rintro e w30 ⟨rfl, hb⟩; refine ⟨_, rfl, ?_⟩; have n0_ := Aside0.mk (Kd.R_below (by (with_reducible repeat (first | apply Kd.R_alloc | apply Kd.R_drewN | apply Kd.R_drew)); exact HO192.out) hb); have n1_ := Aside0.mk (below_step (by repeat (first | (with_reducible first | exact HB.out | apply below_alloc | apply pw_below_drewN | apply below_drew1) | exact HB.out)) hb); clear HO192; clear HB; have HO192 := n0_; have HB := n1_; clear n0_ n1_; (try clear hb); (try clear hb2); (try clear hk); (try clear hi)) | (go_at_call 28; (with_reducible refine (utf_Bad.calls a1 t195 _ A27.out).mono ?_); rintro e w31 ⟨rfl, hb⟩; have n0_ := Aside0.mk (Kd.R_below (by (with_reducible repeat (first | apply Kd.R_alloc | apply Kd.R_drewN | apply Kd.R_drew)); exact HO192.out) hb); have n1_ := Aside0.mk (below_step (by repeat (first | (with_reducible first | exact HB.out | apply below_alloc | apply pw_below_drewN | apply below_drew1) | exact HB.out)) hb); clear HO192; clear HB; have HO192 := n0_; have HB := n1_; clear n0_ n1_; (try clear hb); (try clear hb2); (try clear hk); (try clear hi)))
                    go_ret
                    exact ⟨by first | rfl | (simp [errW_none, errW_some] <;> rfl) | (simp [*, errW_none, errW_some] <;> rfl), by repeat (first | (with_reducible first | exact HB.out | apply below_alloc | apply pw_below_drewN | apply below_drew1) | exact HB.out)⟩
                  · rw [if_neg c26] at H
                    have c26b0 : (t193.toList == a1.toList) = false := beq_eq_false_iff_ne.mpr c26
                    have c26b1 : (t193.toList != a1.toList) = true := bne_iff_ne.mpr c26
                    obtain rfl := Option.some.inj H
                    go_wp2_with (first | ((with_reducible refine gate_callee (f := 26) rfl ?_); refine goesL_ (some 45) rfl rfl Try.func26 (by kernel_rfl) rfl #[.string a1] rfl (by (try simp only [List.map_toArray, List.map_cons, List.map_nil]); first | done | rfl | (simp only [List.length_drop, List.length_take]; rfl)) ?_; (with_reducible refine (utf_Chars.calls a1 t189 true _ A21.out).mono ?_); rintro e w32 ⟨v191, rfl, ho0, hb⟩; refine ⟨_, rfl, ?_⟩; have n0_ := Aside0.mk (Kd.R_lower ho0 (below_size (by repeat (first | (with_reducible first | exact HB.out | apply below_alloc | apply pw_below_drewN | apply below_drew1) | exact HB.out)))); have n1_ := Aside0.mk (below_step (by repeat (first | (with_reducible first | exact HB.out | apply below_alloc | apply pw_below_drewN | apply below_drew1) | exact HB.out)) hb); clear HB; have HO192 := n0_; have HB := n1_; clear n0_ n1_; (try clear hb); (try clear hb2); (try clear hk); (try clear hi); (try clear ho0); obtain ⟨Ao33, co33, eo33⟩ := Kd.R_slice HO192.out; subst eo33) | ((with_reducible refine gate_callee (f := 22) rfl ?_); refine goesL_ (some 60) rfl rfl Try.func22 (by kernel_rfl) rfl #[.slice Ao33 t189.length co33] rfl (by (try simp only [List.map_toArray, List.map_cons, List.map_nil]); first | done | rfl | (simp only [List.length_drop, List.length_take]; rfl)) ?_; (with_reducible refine (utf_Text.calls _ _ t189 t193 true _ ?side1 ?side2 A23.out).mono ?_); (case side1 => repeat (first | exact (Kd.R_reads' HO192.out).2.2 | (with_reducible refine Kd.C_alloc ?_ _) | (with_reducible refine Kd.C_drewN ?_ _) | (with_reducible refine Kd.C_drew ?_))); (case side2 => exact (Kd.R_reads' HO192.out).2.1); rintro e w34 ⟨rfl, hb⟩; refine ⟨_, rfl, ?_⟩; have n0_ := Aside0.mk (Kd.R_below (by (with_reducible repeat (first | apply Kd.R_alloc | apply Kd.R_drewN | apply Kd.R_drew)); exact HO192.out) hb); have n1_ := Aside0.mk (below_step (by repeat (first | (with_reducible first | exact HB.out | apply below_alloc | apply pw_below_drewN | apply below_drew1) | exact HB.out)) hb); clear HO192; clear HB; have HO192 := n0_; have HB := n1_; clear n0_ n1_; (try clear hb); (try clear hb2); (try clear hk); (try clear hi)))
                    go_ret
                    exact ⟨by first | rfl | (simp [errW_none, errW_some] <;> rfl) | (simp [*, errW_none, errW_some] <;> rfl), by repeat (first | (with_reducible first | exact HB.out | apply below_alloc | apply pw_below_drewN | apply below_drew1) | exact HB.out)⟩
                · replace c25 := Bool.eq_false_iff.mpr c25
                  subst c25
                  have H1 : (some false) = some r := by rw [if_neg (show ¬ (false = true) by decide)] at H; exact H
                  clear H
                  have H := H1
                  clear H1
                  obtain rfl := Option.some.inj H
                  go_wp2_with (first | ((with_reducible refine gate_callee (f := 26) rfl ?_); refine goesL_ (some 45) rfl rfl Try.func26 (by kernel_rfl) rfl #[.string a1] rfl (by (try simp only [List.map_toArray, List.map_cons, List.map_nil]); first | done | rfl | (simp only [List.length_drop, List.length_take]; rfl)) ?_; (with_reducible refine (utf_Chars.calls a1 t189 true _ A21.out).mono ?_); rintro e w35 ⟨v191, rfl, ho0, hb⟩; refine ⟨_, rfl, ?_⟩; have n0_ := Aside0.mk (Kd.R_lower ho0 (below_size (by repeat (first | (with_reducible first | exact HB.out | apply below_alloc | apply pw_below_drewN | apply below_drew1) | exact HB.out)))); have n1_ := Aside0.mk (below_step (by repeat (first | (with_reducible first | exact HB.out | apply below_alloc | apply pw_below_drewN | apply below_drew1) | exact HB.out)) hb); clear HB; have HO192 := n0_; have HB := n1_; clear n0_ n1_; (try clear hb); (try clear hb2); (try clear hk); (try clear hi); (try clear ho0); obtain ⟨Ao36, co36, eo36⟩ := Kd.R_slice HO192.out; subst eo36) | ((with_reducible refine gate_callee (f := 22) rfl ?_); refine goesL_ (some 60) rfl rfl Try.func22 (by kernel_rfl) rfl #[.slice Ao36 t189.length co36] rfl (by (try simp only [List.map_toArray, List.map_cons, List.map_nil]); first | done | rfl | (simp only [List.length_drop, List.length_take]; rfl)) ?_; (with_reducible refine (utf_Text.calls _ _ t189 t193 false _ ?side1 ?side2 A23.out).mono ?_); (case side1 => repeat (first | exact (Kd.R_reads' HO192.out).2.2 | (with_reducible refine Kd.C_alloc ?_ _) | (with_reducible refine Kd.C_drewN ?_ _) | (with_reducible refine Kd.C_drew ?_))); (case side2 => exact (Kd.R_reads' HO192.out).2.1); rintro e w37 ⟨rfl, hb⟩; refine ⟨_, rfl, ?_⟩; have n0_ := Aside0.mk (Kd.R_below (by (with_reducible repeat (first | apply Kd.R_alloc | apply Kd.R_drewN | apply Kd.R_drew)); exact HO192.out) hb); have n1_ := Aside0.mk (below_step (by repeat (first | (with_reducible first | exact HB.out | apply below_alloc | apply pw_below_drewN | apply below_drew1) | exact HB.out)) hb); clear HO192; clear HB; have HO192 := n0_; have HB := n1_; clear n0_ n1_; (try clear hb); (try clear hb2); (try clear hk); (try clear hi)))
                  go_ret
                  exact ⟨by first | rfl | (simp [errW_none, errW_some] <;> rfl) | (simp [*, errW_none, errW_some] <;> rfl), by repeat (first | (with_reducible first | exact HB.out | apply below_alloc | apply pw_below_drewN | apply below_drew1) | exact HB.out)⟩
              · replace c24 := Bool.eq_false_iff.mpr c24
                subst c24
                have H1 : (some false) = some r := by rw [if_neg (show ¬ (false = true) by decide)] at H; exact H
                clear H
                have H := H1
                clear H1
                obtain rfl := Option.some.inj H
                go_wp2_with (first | ((with_reducible refine gate_callee (f := 26) rfl ?_); refine goesL_ (some 45) rfl rfl Try.func26 (by kernel_rfl) rfl #[.string a1] rfl (by (try simp only [List.map_toArray, List.map_cons, List.map_nil]); first | done | rfl | (simp only [List.length_drop, List.length_take]; rfl)) ?_; (with_reducible refine (utf_Chars.calls a1 t189 true _ A21.out).mono ?_); rintro e w38 ⟨v191, rfl, ho0, hb⟩; refine ⟨_, rfl, ?_⟩; have n0_ := Aside0.mk (Kd.R_lower ho0 (below_size (by repeat (first | (with_reducible first | exact HB.out | apply below_alloc | apply pw_below_drewN | apply below_drew1) | exact HB.out)))); have n1_ := Aside0.mk (below_step (by repeat (first | (with_reducible first | exact HB.out | apply below_alloc | apply pw_below_drewN | apply below_drew1) | exact HB.out)) hb); clear HB; have HO192 := n0_; have HB := n1_; clear n0_ n1_; (try clear hb); (try clear hb2); (try clear hk); (try clear hi); (try clear ho0); obtain ⟨Ao39, co39, eo39⟩ := Kd.R_slice HO192.out; subst eo39) | ((with_reducible refine gate_callee (f := 22) rfl ?_); refine goesL_ (some 60) rfl rfl Try.func22 (by kernel_rfl) rfl #[.slice Ao39 t189.length co39] rfl (by (try simp only [List.map_toArray, List.map_cons, List.map_nil]); first | done | rfl | (simp only [List.length_drop, List.length_take]; rfl)) ?_; (with_reducible refine (utf_Text.calls _ _ t189 t193 t194 _ ?side1 ?side2 A23.out).mono ?_); (case side1 => repeat (first | exact (Kd.R_reads' HO192.out).2.2 | (with_reducible refine Kd.C_alloc ?_ _) | (with_reducible refine Kd.C_drewN ?_ _) | (with_reducible refine Kd.C_drew ?_))); (case side2 => exact (Kd.R_reads' HO192.out).2.1); rintro e w40 ⟨rfl, hb⟩; refine ⟨_, rfl, ?_⟩; have n0_ := Aside0.mk (Kd.R_below (by (with_reducible repeat (first | apply Kd.R_alloc | apply Kd.R_drewN | apply Kd.R_drew)); exact HO192.out) hb); have n1_ := Aside0.mk (below_step (by repeat (first | (with_reducible first | exact HB.out | apply below_alloc | apply pw_below_drewN | apply below_drew1) | exact HB.out)) hb); clear HO192; clear HB; have HO192 := n0_; have HB := n1_; clear n0_ n1_; (try clear hb); (try clear hb2); (try clear hk); (try clear hi)))
                go_ret
                exact ⟨by first | rfl | (simp [errW_none, errW_some] <;> rfl) | (simp [*, errW_none, errW_some] <;> rfl), by repeat (first | (with_reducible first | exact HB.out | apply below_alloc | apply pw_below_drewN | apply below_drew1) | exact HB.out)⟩
            · replace c22 := Bool.eq_false_iff.mpr c22
              subst c22
              have H1 : (if t181 = true then ((utf_Bad.f a1).bind fun t196 => (some (decide (t196 < (a1.size : Int))))) else (some false)) = some r := by rw [if_neg (show ¬ (false = true) by decide)] at H; exact H
              clear H
              have H := H1
              clear H1
              by_cases c41 : t181 = true
              · subst c41
                have H1 : ((utf_Bad.f a1).bind fun t196 => (some (decide (t196 < (a1.size : Int))))) = some r := by rw [if_pos rfl] at H; exact H
                clear H
                have H := H1
                clear H1
                replace H := Option.bind_eq_some_iff.mp H
                obtain ⟨t196, A420, H⟩ := H
                replace H : (some (decide (t196 < (a1.size : Int)))) = some r := H
                have A42 := Aside0.mk A420
                clear A420
                obtain rfl := Option.some.inj H
                go_wp2_with (first | ((with_reducible refine gate_callee (f := 26) rfl ?_); refine goesL_ (some 45) rfl rfl Try.func26 (by kernel_rfl) rfl #[.string a1] rfl (by (try simp only [List.map_toArray, List.map_cons, List.map_nil]); first | done | rfl | (simp only [List.length_drop, List.length_take]; rfl)) ?_; (with_reducible refine (utf_Chars.calls a1 t189 false _ A21.out).mono ?_); rintro e w43 ⟨v191, rfl, ho0, hb⟩; refine ⟨_, rfl, ?_⟩; have n0_ := Aside0.mk (Kd.R_lower ho0 (below_size (by repeat (first | (with_reducible first | exact HB.out | apply below_alloc | apply pw_below_drewN | apply below_drew1) | exact HB.out)))); have n1_ := Aside0.mk (below_step (by repeat (first | (with_reducible first | exact HB.out | apply below_alloc | apply pw_below_drewN | apply below_drew1) | exact HB.out)) hb); clear HB; have HO192 := n0_; have HB := n1_; clear n0_ n1_; (try clear hb); (try clear hb2); (try clear hk); (try clear hi); (try clear ho0)) | (go_at_call 28; (with_reducible refine (utf_Bad.calls a1 t196 _ A42.out).mono ?_); rintro e w44 ⟨rfl, hb⟩; have n0_ := Aside0.mk (Kd.R_below (by (with_reducible repeat (first | apply Kd.R_alloc | apply Kd.R_drewN | apply Kd.R_drew)); exact HO192.out) hb); have n1_ := Aside0.mk (below_step (by repeat (first | (with_reducible first | exact HB.out | apply below_alloc | apply pw_below_drewN | apply below_drew1) | exact HB.out)) hb); clear HO192; clear HB; have HO192 := n0_; have HB := n1_; clear n0_ n1_; (try clear hb); (try clear hb2); (try clear hk); (try clear hi)))
                go_ret
                exact ⟨by first | rfl | (simp [errW_none, errW_some] <;> rfl) | (simp [*, errW_none, errW_some] <;> rfl), by repeat (first | (with_reducible first | exact HB.out | apply below_alloc | apply pw_below_drewN | apply below_drew1) | exact HB.out)⟩
              · replace c41 := Bool.eq_false_iff.mpr c41
                subst c41
                have H1 : (some false) = some r := by rw [if_neg (show ¬ (false = true) by decide)] at H; exact H
                clear H
                have H := H1
                clear H1
                obtain rfl := Option.some.inj H
                go_wp2_with (first | ((with_reducible refine gate_callee (f := 26) rfl ?_); refine goesL_ (some 45) rfl rfl Try.func26 (by kernel_rfl) rfl #[.string a1] rfl (by (try simp only [List.map_toArray, List.map_cons, List.map_nil]); first | done | rfl | (simp only [List.length_drop, List.length_take]; rfl)) ?_; (with_reducible refine (utf_Chars.calls a1 t189 false _ A21.out).mono ?_); rintro e w45 ⟨v191, rfl, ho0, hb⟩; refine ⟨_, rfl, ?_⟩; have n0_ := Aside0.mk (Kd.R_lower ho0 (below_size (by repeat (first | (with_reducible first | exact HB.out | apply below_alloc | apply pw_below_drewN | apply below_drew1) | exact HB.out)))); have n1_ := Aside0.mk (below_step (by repeat (first | (with_reducible first | exact HB.out | apply below_alloc | apply pw_below_drewN | apply below_drew1) | exact HB.out)) hb); clear HB; have HO192 := n0_; have HB := n1_; clear n0_ n1_; (try clear hb); (try clear hb2); (try clear hk); (try clear hi); (try clear ho0)))
                go_ret
                exact ⟨by first | rfl | (simp [errW_none, errW_some] <;> rfl) | (simp [*, errW_none, errW_some] <;> rfl), by repeat (first | (with_reducible first | exact HB.out | apply below_alloc | apply pw_below_drewN | apply below_drew1) | exact HB.out)⟩

/-- THE ONE PURE STATEMENT of phalaropelaw01_UtfBack: yours. -/
def phalaropelaw01_UtfBack.Pure : Prop := ∀ (l0 : List Int) (a1 : ByteArray), l0.length ≤ maxLen → l0.length * 8 ≤ 140737488351232 → (∀ x ∈ l0, (Lit.int .i64 x).wf = true) → a1.size ≤ 140737488351232 → ∃ k, phalaropelaw01_UtfBack.f k l0 a1 = some true
theorem phalaropelaw01_UtfBack.walk (P : phalaropelaw01_UtfBack.Pure) (a0 : Option Addr) (len0 cap0 : Nat) (z0 : List Int) (a1 : ByteArray) (w : World) (w0 : (a0 = none ∧ len0 = 0 ∧ cap0 = 0 ∧ z0 = []) ∨ ∃ x, a0 = some x ∧ len0 ≤ cap0 ∧ cap0 ≤ maxLen ∧ z0.length = cap0 ∧ (∀ i, i < z0.length → w.cell? (x.add i) = some (.int .i64 (z0.getD i 0))) ∧ ∀ n ∈ z0, (Lit.int .i64 n).wf = true) (y0 : len0 * 8 ≤ 140737488351232) (w1 : a1.size ≤ 140737488351232) :
    Calls Try.prog 4 #[.slice a0 len0 cap0, .string a1] w fun e w' => e = .returned (.bool true) ∧ Below w.heap.size w w' := by
  obtain ⟨l0, rfl, hr0, hm0, hw0, hc0⟩ := ReadsInt.ofRowC w0
  obtain ⟨k, h⟩ := P l0 a1 hm0 y0 hw0 w1
  refine (phalaropelaw01_UtfBack.calls k _ _ l0 a1 true w (Kd.C_of_reads (d := (0 : Int)) (h1 := fun _ => rfl) hr0) hc0 h).mono ?_
  rintro e w' ⟨rfl, hd⟩
  exact ⟨rfl, hd⟩

/-! ### phalaropelaw01_UtfJoins: function 5 -/
def phalaropelaw01_UtfJoins.j0 : Nat → ByteArray → ByteArray → Bool → Bool → Option (Bool)
  | 0, _, _, _, _ => none
  | k + 1, x0, x1, x5, x19 => if x19 = true then (some x5) else (if x5 = true then (if x0.size + x1.size ≤ 9223372036854775807 then ((utf_Valid.f (x0 ++ x1)).bind fun t199 => ((utf_Valid.f x1).bind fun t200 => (if (t199 == t200) = true then ((utf_Count.f (x0 ++ x1)).bind fun t201 => ((utf_Count.f x0).bind fun t202 => ((utf_Count.f x1).bind fun t203 => (if t201 = (wrap64 (t202 + t203)) then ((utf_Bad.f (x0 ++ x1)).bind fun t204 => ((utf_Bad.f x1).bind fun t205 => (some (t204 == (wrap64 ((x0.size : Int) + t205)))))) else (some false))))) else (some false)))) else (none)) else (some false))
def phalaropelaw01_UtfJoins.f (k : Nat) (a0 : ByteArray) (a1 : ByteArray) : Option (Bool) := (phalaropelaw01_awake.f).bind fun t197 => (if (a0.size : Int) > 2000 then (phalaropelaw01_UtfJoins.j0 k a0 a1 t197 true) else (if (a1.size : Int) > 2000 then (phalaropelaw01_UtfJoins.j0 k a0 a1 t197 true) else ((utf_Valid.f a0).bind fun t198 => (phalaropelaw01_UtfJoins.j0 k a0 a1 t197 (!t198)))))
theorem phalaropelaw01_UtfJoins.mono_l : ∀ k, (∀ y0 y1 y2 y3, LeO (phalaropelaw01_UtfJoins.j0 k y0 y1 y2 y3) (phalaropelaw01_UtfJoins.j0 (k + 1) y0 y1 y2 y3))
  | 0 => fun _ _ _ _ r h => by simp [phalaropelaw01_UtfJoins.j0] at h
  | k + 1 => by
    have ih0 := phalaropelaw01_UtfJoins.mono_l k
    · intro y0 y1 y2 y3
      unfold phalaropelaw01_UtfJoins.j0
      repeat' first
      | (with_reducible exact ih0 _ _ _ _)
      | (with_reducible exact LeO.refl _)
      | (with_reducible exact LeO.none _)
      | (with_reducible refine LeO.ite ?_ ?_)
      | (with_reducible refine LeO.bind ?_ (fun _ => ?_))
      | exact ih0 _ _ _ _
      | exact LeO.none _
      | refine LeO.ite ?_ ?_
      | refine LeO.bind ?_ (fun _ => ?_)
theorem phalaropelaw01_UtfJoins.mono : ∀ a0 a1 k, LeO (phalaropelaw01_UtfJoins.f k a0 a1) (phalaropelaw01_UtfJoins.f (k + 1) a0 a1) := by
  intro a0 a1 k
  have ih0 := phalaropelaw01_UtfJoins.mono_l k
  unfold phalaropelaw01_UtfJoins.f
  repeat' first
      | (with_reducible exact ih0 _ _ _ _)
      | (with_reducible exact LeO.refl _)
      | (with_reducible exact LeO.none _)
      | (with_reducible refine LeO.ite ?_ ?_)
      | (with_reducible refine LeO.bind ?_ (fun _ => ?_))
      | exact ih0 _ _ _ _
      | exact LeO.none _
      | refine LeO.ite ?_ ?_
      | refine LeO.bind ?_ (fun _ => ?_)
set_option maxHeartbeats 8000000 in
set_option maxRecDepth 100000 in
theorem phalaropelaw01_UtfJoins.calls (k : Nat) (a0 : ByteArray) (a1 : ByteArray) (r : Bool) (w : World) (h : phalaropelaw01_UtfJoins.f k a0 a1 = some r) :
    Calls Try.prog 5 #[.string a0, .string a1] w fun e w' => e = .returned (.bool r) ∧ Below w.heap.size w w' := by
  have HB := Aside0.mk (Below.refl w.heap.size w)
  have H : ((phalaropelaw01_awake.f).bind fun t197 => (if (a0.size : Int) > 2000 then (phalaropelaw01_UtfJoins.j0 k a0 a1 t197 true) else (if (a1.size : Int) > 2000 then (phalaropelaw01_UtfJoins.j0 k a0 a1 t197 true) else ((utf_Valid.f a0).bind fun t198 => (phalaropelaw01_UtfJoins.j0 k a0 a1 t197 (!t198)))))) = some r := h
  clear h
  replace H := Option.bind_eq_some_iff.mp H
  obtain ⟨t197, A30, H⟩ := H
  replace H : (if (a0.size : Int) > 2000 then (phalaropelaw01_UtfJoins.j0 k a0 a1 t197 true) else (if (a1.size : Int) > 2000 then (phalaropelaw01_UtfJoins.j0 k a0 a1 t197 true) else ((utf_Valid.f a0).bind fun t198 => (phalaropelaw01_UtfJoins.j0 k a0 a1 t197 (!t198))))) = some r := H
  have A3 := Aside0.mk A30
  clear A30
  have HC4 := Aside0.mk H
  clear H
  go_enter Try.func5, Try.ntmps5
  go_upto_region 2 with (first | ((with_reducible refine gate_callee (f := 21) rfl ?_); refine goesL_ (some 6) rfl rfl Try.func21 (by kernel_rfl) rfl #[] rfl (by (try simp only [List.map_toArray, List.map_cons, List.map_nil]); first | done | rfl | (simp only [List.length_drop, List.length_take]; rfl)) ?_; (with_reducible refine (phalaropelaw01_awake.calls  t197 _ A3.out).mono ?_); rintro e w5 ⟨rfl, hb⟩; refine ⟨_, rfl, ?_⟩; have n0_ := Aside0.mk (below_step (by repeat (first | (with_reducible first | exact HB.out | apply below_alloc | apply pw_below_drewN | apply below_drew1) | exact HB.out)) hb); clear HB; have HB := n0_; clear n0_; (try clear hb); (try clear hb2); (try clear hk); (try clear hi)))
  (try simp only [Act.put, List.setIfInBounds_toArray, List.set_cons_zero, List.set_cons_succ])
  go_cut [19] (fun v19 wc => ∃ (kq : Nat) (x19_3 : Bool), v19 = .bool x19_3 ∧ Aside0 (phalaropelaw01_UtfJoins.j0 kq a0 a1 t197 x19_3 = some r) ∧ Aside0 (kq ≤ k) ∧ Aside0 (Below w.heap.size w wc))
  case first =>
    have H := HC4.out
    clear HC4
    by_cases c6 : (a0.size : Int) > 2000
    · rw [if_pos c6] at H
      have c6b0 : decide (2000 < (a0.size : Int)) = true := decide_eq_true c6
      have c6b1 : decide (2000 < a0.size) = true := decide_eq_true (by omega)
      clear c6
      (first | rw [c6b0] | (simp only [i64_w, i32_w]; rw [c6b0]) | skip)
      have H' := Aside0.mk H
      clear H
      go_wp2
      go_meet
      case rel => exact ⟨_, (true), (by first | rfl | (simp; done) | (simp [*]; done)), H', ⟨by first | omega | exact Nat.le_refl _⟩, ⟨by repeat (first | (with_reducible first | exact HB.out | apply below_alloc | apply pw_below_drewN | apply below_drew1) | exact HB.out)⟩⟩
    · rw [if_neg c6] at H
      have c6b0 : decide (2000 < (a0.size : Int)) = false := decide_eq_false c6
      have c6b1 : decide (2000 < a0.size) = false := decide_eq_false (by omega)
      clear c6
      (first | rw [c6b0] | (simp only [i64_w, i32_w]; rw [c6b0]) | skip)
      by_cases c7 : (a1.size : Int) > 2000
      · rw [if_pos c7] at H
        have c7b0 : decide (2000 < (a1.size : Int)) = true := decide_eq_true c7
        have c7b1 : decide (2000 < a1.size) = true := decide_eq_true (by omega)
        clear c7
        have H' := Aside0.mk H
        clear H
        go_wp2
        go_meet
        case rel => exact ⟨_, (true), (by first | rfl | (simp; done) | (simp [*]; done)), H', ⟨by first | omega | exact Nat.le_refl _⟩, ⟨by repeat (first | (with_reducible first | exact HB.out | apply below_alloc | apply pw_below_drewN | apply below_drew1) | exact HB.out)⟩⟩
      · rw [if_neg c7] at H
        have c7b0 : decide (2000 < (a1.size : Int)) = false := decide_eq_false c7
        have c7b1 : decide (2000 < a1.size) = false := decide_eq_false (by omega)
        clear c7
        replace H := Option.bind_eq_some_iff.mp H
        obtain ⟨t198, A80, H⟩ := H
        replace H : (phalaropelaw01_UtfJoins.j0 k a0 a1 t197 (!t198)) = some r := H
        have A8 := Aside0.mk A80
        clear A80
        have H' := Aside0.mk H
        clear H
        go_wp2_with (first | (go_at_call 29; (with_reducible refine (utf_Valid.calls a0 t198 _ A8.out).mono ?_); rintro e w9 ⟨rfl, hb⟩; have n0_ := Aside0.mk (below_step (by repeat (first | (with_reducible first | exact HB.out | apply below_alloc | apply pw_below_drewN | apply below_drew1) | exact HB.out)) hb); clear HB; have HB := n0_; clear n0_; (try clear hb); (try clear hb2); (try clear hk); (try clear hi)))
        go_meet
        case rel => exact ⟨_, (!t198), (by first | rfl | (simp; done) | (simp [*]; done)), H', ⟨by first | omega | exact Nat.le_refl _⟩, ⟨by repeat (first | (with_reducible first | exact HB.out | apply below_alloc | apply pw_below_drewN | apply below_drew1) | exact HB.out)⟩⟩
  case rest =>
    clear HC4
    try clear c2
    try clear p2
    try clear c5
    try clear c6
    try clear c6b0
    try clear c6b1
    try clear c7
    try clear c7b0
    try clear c7b1
    obtain ⟨kq, x19_3, rfl, HA, HJ3, HB⟩ := hcut
    cases kq with
    | zero => exact absurd HA.out (by simp [phalaropelaw01_UtfJoins.j0])
    | succ kj3 =>
      have H := HA.out
      clear HA
      simp only [phalaropelaw01_UtfJoins.j0] at H
      by_cases c10 : x19_3 = true
      · subst c10
        have H1 : (some t197) = some r := by rw [if_pos rfl] at H; exact H
        clear H
        have H := H1
        clear H1
        obtain rfl := Option.some.inj H
        go_wp2
        go_ret
        exact ⟨by first | rfl | (simp [errW_none, errW_some] <;> rfl) | (simp [*, errW_none, errW_some] <;> rfl), by repeat (first | (with_reducible first | exact HB.out | apply below_alloc | apply pw_below_drewN | apply below_drew1) | exact HB.out)⟩
      · replace c10 := Bool.eq_false_iff.mpr c10
        subst c10
        have H1 : (if t197 = true then (if a0.size + a1.size ≤ 9223372036854775807 then ((utf_Valid.f (a0 ++ a1)).bind fun t199 => ((utf_Valid.f a1).bind fun t200 => (if (t199 == t200) = true then ((utf_Count.f (a0 ++ a1)).bind fun t201 => ((utf_Count.f a0).bind fun t202 => ((utf_Count.f a1).bind fun t203 => (if t201 = (wrap64 (t202 + t203)) then ((utf_Bad.f (a0 ++ a1)).bind fun t204 => ((utf_Bad.f a1).bind fun t205 => (some (t204 == (wrap64 ((a0.size : Int) + t205)))))) else (some false))))) else (some false)))) else (none)) else (some false)) = some r := by rw [if_neg (show ¬ (false = true) by decide)] at H; exact H
        clear H
        have H := H1
        clear H1
        by_cases c11 : t197 = true
        · subst c11
          have H1 : (if a0.size + a1.size ≤ 9223372036854775807 then ((utf_Valid.f (a0 ++ a1)).bind fun t199 => ((utf_Valid.f a1).bind fun t200 => (if (t199 == t200) = true then ((utf_Count.f (a0 ++ a1)).bind fun t201 => ((utf_Count.f a0).bind fun t202 => ((utf_Count.f a1).bind fun t203 => (if t201 = (wrap64 (t202 + t203)) then ((utf_Bad.f (a0 ++ a1)).bind fun t204 => ((utf_Bad.f a1).bind fun t205 => (some (t204 == (wrap64 ((a0.size : Int) + t205)))))) else (some false))))) else (some false)))) else (none)) = some r := by rw [if_pos rfl] at H; exact H
          clear H
          have H := H1
          clear H1
          by_cases c12 : a0.size + a1.size ≤ 9223372036854775807
          · rw [if_pos c12] at H
            have c12b0 := eq_true c12
            have c12b1 : decide (a0.size + a1.size ≤ 9223372036854775807) = true := decide_eq_true c12
            try have c12b2 : (9223372036854775807 < a0.size + a1.size) = False := eq_false (Nat.not_lt.2 c12)
            replace H := Option.bind_eq_some_iff.mp H
            obtain ⟨t199, A130, H⟩ := H
            replace H : ((utf_Valid.f a1).bind fun t200 => (if (t199 == t200) = true then ((utf_Count.f (a0 ++ a1)).bind fun t201 => ((utf_Count.f a0).bind fun t202 => ((utf_Count.f a1).bind fun t203 => (if t201 = (wrap64 (t202 + t203)) then ((utf_Bad.f (a0 ++ a1)).bind fun t204 => ((utf_Bad.f a1).bind fun t205 => (some (t204 == (wrap64 ((a0.size : Int) + t205)))))) else (some false))))) else (some false))) = some r := H
            have A13 := Aside0.mk A130
            clear A130
            replace H := Option.bind_eq_some_iff.mp H
            obtain ⟨t200, A140, H⟩ := H
            replace H : (if (t199 == t200) = true then ((utf_Count.f (a0 ++ a1)).bind fun t201 => ((utf_Count.f a0).bind fun t202 => ((utf_Count.f a1).bind fun t203 => (if t201 = (wrap64 (t202 + t203)) then ((utf_Bad.f (a0 ++ a1)).bind fun t204 => ((utf_Bad.f a1).bind fun t205 => (some (t204 == (wrap64 ((a0.size : Int) + t205)))))) else (some false))))) else (some false)) = some r := H
            have A14 := Aside0.mk A140
            clear A140
            by_cases c15 : (t199 == t200) = true
            · rw [if_pos c15] at H
              have c15b0 : (t199 == t200) = true := c15
              (try (have c15b1 : decide (t199 = t200) = true := by simpa using c15))
              (try (have c15b2 : (t199 == t200) = true := by simpa using c15))
              clear c15
              replace H := Option.bind_eq_some_iff.mp H
              obtain ⟨t201, A160, H⟩ := H
              replace H : ((utf_Count.f a0).bind fun t202 => ((utf_Count.f a1).bind fun t203 => (if t201 = (wrap64 (t202 + t203)) then ((utf_Bad.f (a0 ++ a1)).bind fun t204 => ((utf_Bad.f a1).bind fun t205 => (some (t204 == (wrap64 ((a0.size : Int) + t205)))))) else (some false)))) = some r := H
              have A16 := Aside0.mk A160
              clear A160
              replace H := Option.bind_eq_some_iff.mp H
              obtain ⟨t202, A170, H⟩ := H
              replace H : ((utf_Count.f a1).bind fun t203 => (if t201 = (wrap64 (t202 + t203)) then ((utf_Bad.f (a0 ++ a1)).bind fun t204 => ((utf_Bad.f a1).bind fun t205 => (some (t204 == (wrap64 ((a0.size : Int) + t205)))))) else (some false))) = some r := H
              have A17 := Aside0.mk A170
              clear A170
              replace H := Option.bind_eq_some_iff.mp H
              obtain ⟨t203, A180, H⟩ := H
              replace H : (if t201 = (wrap64 (t202 + t203)) then ((utf_Bad.f (a0 ++ a1)).bind fun t204 => ((utf_Bad.f a1).bind fun t205 => (some (t204 == (wrap64 ((a0.size : Int) + t205)))))) else (some false)) = some r := H
              have A18 := Aside0.mk A180
              clear A180
              by_cases c19 : t201 = (wrap64 (t202 + t203))
              · rw [if_pos c19] at H
                have c19b0 : (t201 == (wrap64 (t202 + t203))) = true := beq_iff_eq.mpr c19
                have c19b1 : (t201 != (wrap64 (t202 + t203))) = false := bne_eq_false_iff_eq.mpr c19
                clear c19
                replace H := Option.bind_eq_some_iff.mp H
                obtain ⟨t204, A200, H⟩ := H
                replace H : ((utf_Bad.f a1).bind fun t205 => (some (t204 == (wrap64 ((a0.size : Int) + t205))))) = some r := H
                have A20 := Aside0.mk A200
                clear A200
                replace H := Option.bind_eq_some_iff.mp H
                obtain ⟨t205, A210, H⟩ := H
                replace H : (some (t204 == (wrap64 ((a0.size : Int) + t205)))) = some r := H
                have A21 := Aside0.mk A210
                clear A210
                obtain rfl := Option.some.inj H
                go_wp2_with (first | (go_at_call 29; (with_reducible refine (utf_Valid.calls (a0 ++ a1) t199 _ A13.out).mono ?_); rintro e w22 ⟨rfl, hb⟩; have n0_ := Aside0.mk (below_step (by repeat (first | (with_reducible first | exact HB.out | apply below_alloc | apply pw_below_drewN | apply below_drew1) | exact HB.out)) hb); clear HB; have HB := n0_; clear n0_; (try clear hb); (try clear hb2); (try clear hk); (try clear hi)) | (go_at_call 29; (with_reducible refine (utf_Valid.calls a1 t200 _ A14.out).mono ?_); rintro e w23 ⟨rfl, hb⟩; have n0_ := Aside0.mk (below_step (by repeat (first | (with_reducible first | exact HB.out | apply below_alloc | apply pw_below_drewN | apply below_drew1) | exact HB.out)) hb); clear HB; have HB := n0_; clear n0_; (try clear hb); (try clear hb2); (try clear hk); (try clear hi)) | (go_at_call 30; (with_reducible refine (utf_Count.calls (a0 ++ a1) t201 _ A16.out).mono ?_); rintro e w24 ⟨rfl, hb⟩; have n0_ := Aside0.mk (below_step (by repeat (first | (with_reducible first | exact HB.out | apply below_alloc | apply pw_below_drewN | apply below_drew1) | exact HB.out)) hb); clear HB; have HB := n0_; clear n0_; (try clear hb); (try clear hb2); (try clear hk); (try clear hi)) | (go_at_call 30; (with_reducible refine (utf_Count.calls a0 t202 _ A17.out).mono ?_); rintro e w25 ⟨rfl, hb⟩; have n0_ := Aside0.mk (below_step (by repeat (first | (with_reducible first | exact HB.out | apply below_alloc | apply pw_below_drewN | apply below_drew1) | exact HB.out)) hb); clear HB; have HB := n0_; clear n0_; (try clear hb); (try clear hb2); (try clear hk); (try clear hi)) | (go_at_call 30; (with_reducible refine (utf_Count.calls a1 t203 _ A18.out).mono ?_); rintro e w26 ⟨rfl, hb⟩; have n0_ := Aside0.mk (below_step (by repeat (first | (with_reducible first | exact HB.out | apply below_alloc | apply pw_below_drewN | apply below_drew1) | exact HB.out)) hb); clear HB; have HB := n0_; clear n0_; (try clear hb); (try clear hb2); (try clear hk); (try clear hi)) | (go_at_call 28; (with_reducible refine (utf_Bad.calls (a0 ++ a1) t204 _ A20.out).mono ?_); rintro e w27 ⟨rfl, hb⟩; have n0_ := Aside0.mk (below_step (by repeat (first | (with_reducible first | exact HB.out | apply below_alloc | apply pw_below_drewN | apply below_drew1) | exact HB.out)) hb); clear HB; have HB := n0_; clear n0_; (try clear hb); (try clear hb2); (try clear hk); (try clear hi)) | (go_at_call 28; (with_reducible refine (utf_Bad.calls a1 t205 _ A21.out).mono ?_); rintro e w28 ⟨rfl, hb⟩; have n0_ := Aside0.mk (below_step (by repeat (first | (with_reducible first | exact HB.out | apply below_alloc | apply pw_below_drewN | apply below_drew1) | exact HB.out)) hb); clear HB; have HB := n0_; clear n0_; (try clear hb); (try clear hb2); (try clear hk); (try clear hi)))
                go_ret
                exact ⟨by first | rfl | (simp [errW_none, errW_some] <;> rfl) | (simp [*, errW_none, errW_some] <;> rfl), by repeat (first | (with_reducible first | exact HB.out | apply below_alloc | apply pw_below_drewN | apply below_drew1) | exact HB.out)⟩
              · rw [if_neg c19] at H
                have c19b0 : (t201 == (wrap64 (t202 + t203))) = false := beq_eq_false_iff_ne.mpr c19
                have c19b1 : (t201 != (wrap64 (t202 + t203))) = true := bne_iff_ne.mpr c19
                obtain rfl := Option.some.inj H
                go_wp2_with (first | (go_at_call 29; (with_reducible refine (utf_Valid.calls (a0 ++ a1) t199 _ A13.out).mono ?_); rintro e w29 ⟨rfl, hb⟩; have n0_ := Aside0.mk (below_step (by repeat (first | (with_reducible first | exact HB.out | apply below_alloc | apply pw_below_drewN | apply below_drew1) | exact HB.out)) hb); clear HB; have HB := n0_; clear n0_; (try clear hb); (try clear hb2); (try clear hk); (try clear hi)) | (go_at_call 29; (with_reducible refine (utf_Valid.calls a1 t200 _ A14.out).mono ?_); rintro e w30 ⟨rfl, hb⟩; have n0_ := Aside0.mk (below_step (by repeat (first | (with_reducible first | exact HB.out | apply below_alloc | apply pw_below_drewN | apply below_drew1) | exact HB.out)) hb); clear HB; have HB := n0_; clear n0_; (try clear hb); (try clear hb2); (try clear hk); (try clear hi)) | (go_at_call 30; (with_reducible refine (utf_Count.calls (a0 ++ a1) t201 _ A16.out).mono ?_); rintro e w31 ⟨rfl, hb⟩; have n0_ := Aside0.mk (below_step (by repeat (first | (with_reducible first | exact HB.out | apply below_alloc | apply pw_below_drewN | apply below_drew1) | exact HB.out)) hb); clear HB; have HB := n0_; clear n0_; (try clear hb); (try clear hb2); (try clear hk); (try clear hi)) | (go_at_call 30; (with_reducible refine (utf_Count.calls a0 t202 _ A17.out).mono ?_); rintro e w32 ⟨rfl, hb⟩; have n0_ := Aside0.mk (below_step (by repeat (first | (with_reducible first | exact HB.out | apply below_alloc | apply pw_below_drewN | apply below_drew1) | exact HB.out)) hb); clear HB; have HB := n0_; clear n0_; (try clear hb); (try clear hb2); (try clear hk); (try clear hi)) | (go_at_call 30; (with_reducible refine (utf_Count.calls a1 t203 _ A18.out).mono ?_); rintro e w33 ⟨rfl, hb⟩; have n0_ := Aside0.mk (below_step (by repeat (first | (with_reducible first | exact HB.out | apply below_alloc | apply pw_below_drewN | apply below_drew1) | exact HB.out)) hb); clear HB; have HB := n0_; clear n0_; (try clear hb); (try clear hb2); (try clear hk); (try clear hi)))
                go_ret
                exact ⟨by first | rfl | (simp [errW_none, errW_some] <;> rfl) | (simp [*, errW_none, errW_some] <;> rfl), by repeat (first | (with_reducible first | exact HB.out | apply below_alloc | apply pw_below_drewN | apply below_drew1) | exact HB.out)⟩
            · rw [if_neg c15] at H
              have c15b0 : (t199 == t200) = false := by simpa using c15
              (try (have c15b1 : decide (t199 = t200) = false := by simpa using c15))
              (try (have c15b2 : (t199 == t200) = false := by simpa using c15))
              (try (have c15b3 : ¬ (t199 = t200) := by simpa using c15))
              clear c15
              obtain rfl := Option.some.inj H
              go_wp2_with (first | (go_at_call 29; (with_reducible refine (utf_Valid.calls (a0 ++ a1) t199 _ A13.out).mono ?_); rintro e w34 ⟨rfl, hb⟩; have n0_ := Aside0.mk (below_step (by repeat (first | (with_reducible first | exact HB.out | apply below_alloc | apply pw_below_drewN | apply below_drew1) | exact HB.out)) hb); clear HB; have HB := n0_; clear n0_; (try clear hb); (try clear hb2); (try clear hk); (try clear hi)) | (go_at_call 29; (with_reducible refine (utf_Valid.calls a1 t200 _ A14.out).mono ?_); rintro e w35 ⟨rfl, hb⟩; have n0_ := Aside0.mk (below_step (by repeat (first | (with_reducible first | exact HB.out | apply below_alloc | apply pw_below_drewN | apply below_drew1) | exact HB.out)) hb); clear HB; have HB := n0_; clear n0_; (try clear hb); (try clear hb2); (try clear hk); (try clear hi)))
              go_ret
              exact ⟨by first | rfl | (simp [errW_none, errW_some] <;> rfl) | (simp [*, errW_none, errW_some] <;> rfl), by repeat (first | (with_reducible first | exact HB.out | apply below_alloc | apply pw_below_drewN | apply below_drew1) | exact HB.out)⟩
          · rw [if_neg c12] at H
            exact absurd H (by simp)
        · replace c11 := Bool.eq_false_iff.mpr c11
          subst c11
          have H1 : (some false) = some r := by rw [if_neg (show ¬ (false = true) by decide)] at H; exact H
          clear H
          have H := H1
          clear H1
          obtain rfl := Option.some.inj H
          go_wp2
          go_ret
          exact ⟨by first | rfl | (simp [errW_none, errW_some] <;> rfl) | (simp [*, errW_none, errW_some] <;> rfl), by repeat (first | (with_reducible first | exact HB.out | apply below_alloc | apply pw_below_drewN | apply below_drew1) | exact HB.out)⟩

/-- THE ONE PURE STATEMENT of phalaropelaw01_UtfJoins: yours. -/
def phalaropelaw01_UtfJoins.Pure : Prop := ∀ (a0 : ByteArray) (a1 : ByteArray), a0.size ≤ 140737488351232 → a1.size ≤ 140737488351232 → ∃ k, phalaropelaw01_UtfJoins.f k a0 a1 = some true
theorem phalaropelaw01_UtfJoins.walk (P : phalaropelaw01_UtfJoins.Pure) (a0 : ByteArray) (a1 : ByteArray) (w : World) (w0 : a0.size ≤ 140737488351232) (w1 : a1.size ≤ 140737488351232) :
    Calls Try.prog 5 #[.string a0, .string a1] w fun e w' => e = .returned (.bool true) ∧ Below w.heap.size w w' := by
  obtain ⟨k, h⟩ := P a0 a1 w0 w1
  refine (phalaropelaw01_UtfJoins.calls k a0 a1 true w h).mono ?_
  rintro e w' ⟨rfl, hd⟩
  exact ⟨rfl, hd⟩

/-! ### phalaropelaw01_UtfPrefix: function 8 -/
def phalaropelaw01_UtfPrefix.j0 : Nat → ByteArray → Bool → Int → Int → ByteArray → Bool → Option (Bool)
  | 0, _, _, _, _, _, _ => none
  | k + 1, x0, x7, x8, x9, x10, x35 => if x35 = true then (some false) else (if x7 = true then ((utf_Valid.f x10).bind fun t208 => (if t208 = true then ((utf_Count.f x10).bind fun t209 => ((utf_Count.f x0).bind fun t210 => (if t209 = (mn x8 t210) then ((utf_Prefix.f x10 x9).bind fun t211 => ((utf_Prefix.f x0 (mn x8 x9)).bind fun t212 => (if t211.toList = t212.toList then ((utf_Prefix.f x0 (-1)).bind fun t213 => (some (t213.toList == ([] : List UInt8)))) else (some false)))) else (some false)))) else (some false))) else (some false))
def phalaropelaw01_UtfPrefix.f (k : Nat) (a0 : ByteArray) (a1 : Int) (a2 : Int) : Option (Bool) := (phalaropelaw01_awake.f).bind fun t206 => (if (a0.size : Int) > 2000 then (some t206) else ((utf_Prefix.f a0 (wrap64 (a1))).bind fun t207 => (if (t207.size : Int) > (a0.size : Int) then (phalaropelaw01_UtfPrefix.j0 k a0 t206 (wrap64 (a1)) (wrap64 (a2)) t207 true) else (if 0 ≤ (t207.size : Int) then (if (t207.size : Int) ≤ (a0.size : Int) then (phalaropelaw01_UtfPrefix.j0 k a0 t206 (wrap64 (a1)) (wrap64 (a2)) t207 ((a0.extract 0 ((t207.size : Int) : Int).toNat).toList != t207.toList)) else (none)) else (none)))))
theorem phalaropelaw01_UtfPrefix.mono_l : ∀ k, (∀ y0 y1 y2 y3 y4 y5, LeO (phalaropelaw01_UtfPrefix.j0 k y0 y1 y2 y3 y4 y5) (phalaropelaw01_UtfPrefix.j0 (k + 1) y0 y1 y2 y3 y4 y5))
  | 0 => fun _ _ _ _ _ _ r h => by simp [phalaropelaw01_UtfPrefix.j0] at h
  | k + 1 => by
    have ih0 := phalaropelaw01_UtfPrefix.mono_l k
    · intro y0 y1 y2 y3 y4 y5
      unfold phalaropelaw01_UtfPrefix.j0
      repeat' first
      | (with_reducible exact ih0 _ _ _ _ _ _)
      | (with_reducible exact LeO.refl _)
      | (with_reducible exact LeO.none _)
      | (with_reducible refine LeO.ite ?_ ?_)
      | (with_reducible refine LeO.bind ?_ (fun _ => ?_))
      | exact ih0 _ _ _ _ _ _
      | exact LeO.none _
      | refine LeO.ite ?_ ?_
      | refine LeO.bind ?_ (fun _ => ?_)
theorem phalaropelaw01_UtfPrefix.mono : ∀ a0 a1 a2 k, LeO (phalaropelaw01_UtfPrefix.f k a0 a1 a2) (phalaropelaw01_UtfPrefix.f (k + 1) a0 a1 a2) := by
  intro a0 a1 a2 k
  have ih0 := phalaropelaw01_UtfPrefix.mono_l k
  unfold phalaropelaw01_UtfPrefix.f
  repeat' first
      | (with_reducible exact ih0 _ _ _ _ _ _)
      | (with_reducible exact LeO.refl _)
      | (with_reducible exact LeO.none _)
      | (with_reducible refine LeO.ite ?_ ?_)
      | (with_reducible refine LeO.bind ?_ (fun _ => ?_))
      | exact ih0 _ _ _ _ _ _
      | exact LeO.none _
      | refine LeO.ite ?_ ?_
      | refine LeO.bind ?_ (fun _ => ?_)
set_option maxHeartbeats 8000000 in
set_option maxRecDepth 100000 in
theorem phalaropelaw01_UtfPrefix.calls (k : Nat) (a0 : ByteArray) (a1 : Int) (a2 : Int) (r : Bool) (w : World) (h : phalaropelaw01_UtfPrefix.f k a0 a1 a2 = some r) :
    Calls Try.prog 8 #[.string a0, .int .u8 a1, .int .u8 a2] w fun e w' => e = .returned (.bool r) ∧ Below w.heap.size w w' := by
  have HB := Aside0.mk (Below.refl w.heap.size w)
  have H : ((phalaropelaw01_awake.f).bind fun t206 => (if (a0.size : Int) > 2000 then (some t206) else ((utf_Prefix.f a0 (wrap64 (a1))).bind fun t207 => (if (t207.size : Int) > (a0.size : Int) then (phalaropelaw01_UtfPrefix.j0 k a0 t206 (wrap64 (a1)) (wrap64 (a2)) t207 true) else (if 0 ≤ (t207.size : Int) then (if (t207.size : Int) ≤ (a0.size : Int) then (phalaropelaw01_UtfPrefix.j0 k a0 t206 (wrap64 (a1)) (wrap64 (a2)) t207 ((a0.extract 0 ((t207.size : Int) : Int).toNat).toList != t207.toList)) else (none)) else (none)))))) = some r := h
  clear h
  replace H := Option.bind_eq_some_iff.mp H
  obtain ⟨t206, A40, H⟩ := H
  replace H : (if (a0.size : Int) > 2000 then (some t206) else ((utf_Prefix.f a0 (wrap64 (a1))).bind fun t207 => (if (t207.size : Int) > (a0.size : Int) then (phalaropelaw01_UtfPrefix.j0 k a0 t206 (wrap64 (a1)) (wrap64 (a2)) t207 true) else (if 0 ≤ (t207.size : Int) then (if (t207.size : Int) ≤ (a0.size : Int) then (phalaropelaw01_UtfPrefix.j0 k a0 t206 (wrap64 (a1)) (wrap64 (a2)) t207 ((a0.extract 0 ((t207.size : Int) : Int).toNat).toList != t207.toList)) else (none)) else (none))))) = some r := H
  have A4 := Aside0.mk A40
  clear A40
  by_cases c5 : (a0.size : Int) > 2000
  · rw [if_pos c5] at H
    have c5b0 : decide (2000 < (a0.size : Int)) = true := decide_eq_true c5
    have c5b1 : decide (2000 < a0.size) = true := decide_eq_true (by omega)
    clear c5
    obtain rfl := Option.some.inj H
    go_enter Try.func8, Try.ntmps8
    go_wp2_with (first | ((with_reducible refine gate_callee (f := 21) rfl ?_); refine goesL_ (some 11) rfl rfl Try.func21 (by kernel_rfl) rfl #[] rfl (by (try simp only [List.map_toArray, List.map_cons, List.map_nil]); first | done | rfl | (simp only [List.length_drop, List.length_take]; rfl)) ?_; (with_reducible refine (phalaropelaw01_awake.calls  t206 _ A4.out).mono ?_); rintro e w6 ⟨rfl, hb⟩; refine ⟨_, rfl, ?_⟩; have n0_ := Aside0.mk (below_step (by repeat (first | (with_reducible first | exact HB.out | apply below_alloc | apply pw_below_drewN | apply below_drew1) | exact HB.out)) hb); clear HB; have HB := n0_; clear n0_; (try clear hb); (try clear hb2); (try clear hk); (try clear hi)))
    go_ret
    exact ⟨by first | rfl | (simp [errW_none, errW_some] <;> rfl) | (simp [*, errW_none, errW_some] <;> rfl), by repeat (first | (with_reducible first | exact HB.out | apply below_alloc | apply pw_below_drewN | apply below_drew1) | exact HB.out)⟩
  · rw [if_neg c5] at H
    have c5b0 : decide (2000 < (a0.size : Int)) = false := decide_eq_false c5
    have c5b1 : decide (2000 < a0.size) = false := decide_eq_false (by omega)
    clear c5
    replace H := Option.bind_eq_some_iff.mp H
    obtain ⟨t207, A70, H⟩ := H
    replace H : (if (t207.size : Int) > (a0.size : Int) then (phalaropelaw01_UtfPrefix.j0 k a0 t206 (wrap64 (a1)) (wrap64 (a2)) t207 true) else (if 0 ≤ (t207.size : Int) then (if (t207.size : Int) ≤ (a0.size : Int) then (phalaropelaw01_UtfPrefix.j0 k a0 t206 (wrap64 (a1)) (wrap64 (a2)) t207 ((a0.extract 0 ((t207.size : Int) : Int).toNat).toList != t207.toList)) else (none)) else (none))) = some r := H
    have A7 := Aside0.mk A70
    clear A70
    have HC8 := Aside0.mk H
    clear H
    go_enter Try.func8, Try.ntmps8
    go_upto_region 7 with (first | ((with_reducible refine gate_callee (f := 21) rfl ?_); refine goesL_ (some 11) rfl rfl Try.func21 (by kernel_rfl) rfl #[] rfl (by (try simp only [List.map_toArray, List.map_cons, List.map_nil]); first | done | rfl | (simp only [List.length_drop, List.length_take]; rfl)) ?_; (with_reducible refine (phalaropelaw01_awake.calls  t206 _ A4.out).mono ?_); rintro e w9 ⟨rfl, hb⟩; refine ⟨_, rfl, ?_⟩; have n0_ := Aside0.mk (below_step (by repeat (first | (with_reducible first | exact HB.out | apply below_alloc | apply pw_below_drewN | apply below_drew1) | exact HB.out)) hb); clear HB; have HB := n0_; clear n0_; (try clear hb); (try clear hb2); (try clear hk); (try clear hi)) | ((with_reducible refine gate_callee (f := 33) rfl ?_); refine goesL_ (some 22) rfl rfl Try.func33 (by kernel_rfl) rfl #[.string a0, .int .i64 (wrap64 (a1))] rfl (by (try simp only [List.map_toArray, List.map_cons, List.map_nil]); first | done | rfl | (simp only [List.length_drop, List.length_take]; rfl)) ?_; (with_reducible refine (utf_Prefix.calls a0 (wrap64 (a1)) t207 _ A7.out).mono ?_); rintro e w10 ⟨rfl, hb⟩; refine ⟨_, rfl, ?_⟩; have n0_ := Aside0.mk (below_step (by repeat (first | (with_reducible first | exact HB.out | apply below_alloc | apply pw_below_drewN | apply below_drew1) | exact HB.out)) hb); clear HB; have HB := n0_; clear n0_; (try clear hb); (try clear hb2); (try clear hk); (try clear hi)))
    (try simp only [Act.put, List.setIfInBounds_toArray, List.set_cons_zero, List.set_cons_succ])
    go_cut [35] (fun v35 wc => ∃ (kq : Nat) (x35_7 : Bool), v35 = .bool x35_7 ∧ Aside0 (phalaropelaw01_UtfPrefix.j0 kq a0 t206 (wrap64 (a1)) (wrap64 (a2)) t207 x35_7 = some r) ∧ Aside0 (kq ≤ k) ∧ Aside0 (Below w.heap.size w wc))
    case first =>
      have H := HC8.out
      clear HC8
      by_cases c11 : (t207.size : Int) > (a0.size : Int)
      · rw [if_pos c11] at H
        have c11b0 : decide ((a0.size : Int) < (t207.size : Int)) = true := decide_eq_true c11
        have c11b1 : decide (a0.size < t207.size) = true := decide_eq_true (Int.ofNat_lt.mp c11)
        clear c11
        (first | rw [c11b0] | (simp only [i64_w, i32_w]; rw [c11b0]) | skip)
        have H' := Aside0.mk H
        clear H
        go_wp2
        go_meet
        case rel => exact ⟨_, (true), (by first | rfl | (simp; done) | (simp [*]; done)), H', ⟨by first | omega | exact Nat.le_refl _⟩, ⟨by repeat (first | (with_reducible first | exact HB.out | apply below_alloc | apply pw_below_drewN | apply below_drew1) | exact HB.out)⟩⟩
      · rw [if_neg c11] at H
        have c11b0 : decide ((a0.size : Int) < (t207.size : Int)) = false := decide_eq_false c11
        have c11b1 : decide (a0.size < t207.size) = false := decide_eq_false (fun h => c11 (Int.ofNat_lt.mpr h))
        clear c11
        (first | rw [c11b0] | (simp only [i64_w, i32_w]; rw [c11b0]) | skip)
        by_cases c12 : 0 ≤ (t207.size : Int)
        · rw [if_pos c12] at H
          have c12b0 := eq_true c12
          have c12b1 : decide (0 ≤ (t207.size : Int)) = true := decide_eq_true c12
          clear c12
          by_cases c13 : (t207.size : Int) ≤ (a0.size : Int)
          · rw [if_pos c13] at H
            have c13b0 := eq_true c13
            have c13b1 : decide ((t207.size : Int) ≤ (a0.size : Int)) = true := decide_eq_true c13
            clear c13
            have H' := Aside0.mk H
            clear H
            go_wp2
            go_meet
            case rel => exact ⟨_, (((a0.extract 0 ((t207.size : Int) : Int).toNat).toList != t207.toList)), (by first | rfl | (simp; done) | (simp [*]; done)), H', ⟨by first | omega | exact Nat.le_refl _⟩, ⟨by repeat (first | (with_reducible first | exact HB.out | apply below_alloc | apply pw_below_drewN | apply below_drew1) | exact HB.out)⟩⟩
          · rw [if_neg c13] at H
            exact absurd H (by simp)
        · rw [if_neg c12] at H
          exact absurd H (by simp)
    case rest =>
      clear HC8
      try clear c1
      try clear c2
      try clear p2
      try clear c3
      try clear c5
      try clear c5b0
      try clear c5b1
      try clear p6
      try clear c8
      try clear c11
      try clear c11b0
      try clear c11b1
      try clear c12
      try clear c12b0
      try clear c12b1
      try clear c13
      try clear c13b0
      try clear c13b1
      obtain ⟨kq, x35_7, rfl, HA, HJ7, HB⟩ := hcut
      cases kq with
      | zero => exact absurd HA.out (by simp [phalaropelaw01_UtfPrefix.j0])
      | succ kj7 =>
        have H := HA.out
        clear HA
        simp only [phalaropelaw01_UtfPrefix.j0] at H
        by_cases c14 : x35_7 = true
        · subst c14
          have H1 : (some false) = some r := by rw [if_pos rfl] at H; exact H
          clear H
          have H := H1
          clear H1
          obtain rfl := Option.some.inj H
          go_wp2
          go_ret
          exact ⟨by first | rfl | (simp [errW_none, errW_some] <;> rfl) | (simp [*, errW_none, errW_some] <;> rfl), by repeat (first | (with_reducible first | exact HB.out | apply below_alloc | apply pw_below_drewN | apply below_drew1) | exact HB.out)⟩
        · replace c14 := Bool.eq_false_iff.mpr c14
          subst c14
          have H1 : (if t206 = true then ((utf_Valid.f t207).bind fun t208 => (if t208 = true then ((utf_Count.f t207).bind fun t209 => ((utf_Count.f a0).bind fun t210 => (if t209 = (mn (wrap64 (a1)) t210) then ((utf_Prefix.f t207 (wrap64 (a2))).bind fun t211 => ((utf_Prefix.f a0 (mn (wrap64 (a1)) (wrap64 (a2)))).bind fun t212 => (if t211.toList = t212.toList then ((utf_Prefix.f a0 (-1)).bind fun t213 => (some (t213.toList == ([] : List UInt8)))) else (some false)))) else (some false)))) else (some false))) else (some false)) = some r := by rw [if_neg (show ¬ (false = true) by decide)] at H; exact H
          clear H
          have H := H1
          clear H1
          by_cases c15 : t206 = true
          · subst c15
            have H1 : ((utf_Valid.f t207).bind fun t208 => (if t208 = true then ((utf_Count.f t207).bind fun t209 => ((utf_Count.f a0).bind fun t210 => (if t209 = (mn (wrap64 (a1)) t210) then ((utf_Prefix.f t207 (wrap64 (a2))).bind fun t211 => ((utf_Prefix.f a0 (mn (wrap64 (a1)) (wrap64 (a2)))).bind fun t212 => (if t211.toList = t212.toList then ((utf_Prefix.f a0 (-1)).bind fun t213 => (some (t213.toList == ([] : List UInt8)))) else (some false)))) else (some false)))) else (some false))) = some r := by rw [if_pos rfl] at H; exact H
            clear H
            have H := H1
            clear H1
            replace H := Option.bind_eq_some_iff.mp H
            obtain ⟨t208, A160, H⟩ := H
            replace H : (if t208 = true then ((utf_Count.f t207).bind fun t209 => ((utf_Count.f a0).bind fun t210 => (if t209 = (mn (wrap64 (a1)) t210) then ((utf_Prefix.f t207 (wrap64 (a2))).bind fun t211 => ((utf_Prefix.f a0 (mn (wrap64 (a1)) (wrap64 (a2)))).bind fun t212 => (if t211.toList = t212.toList then ((utf_Prefix.f a0 (-1)).bind fun t213 => (some (t213.toList == ([] : List UInt8)))) else (some false)))) else (some false)))) else (some false)) = some r := H
            have A16 := Aside0.mk A160
            clear A160
            by_cases c17 : t208 = true
            · subst c17
              have H1 : ((utf_Count.f t207).bind fun t209 => ((utf_Count.f a0).bind fun t210 => (if t209 = (mn (wrap64 (a1)) t210) then ((utf_Prefix.f t207 (wrap64 (a2))).bind fun t211 => ((utf_Prefix.f a0 (mn (wrap64 (a1)) (wrap64 (a2)))).bind fun t212 => (if t211.toList = t212.toList then ((utf_Prefix.f a0 (-1)).bind fun t213 => (some (t213.toList == ([] : List UInt8)))) else (some false)))) else (some false)))) = some r := by rw [if_pos rfl] at H; exact H
              clear H
              have H := H1
              clear H1
              replace H := Option.bind_eq_some_iff.mp H
              obtain ⟨t209, A180, H⟩ := H
              replace H : ((utf_Count.f a0).bind fun t210 => (if t209 = (mn (wrap64 (a1)) t210) then ((utf_Prefix.f t207 (wrap64 (a2))).bind fun t211 => ((utf_Prefix.f a0 (mn (wrap64 (a1)) (wrap64 (a2)))).bind fun t212 => (if t211.toList = t212.toList then ((utf_Prefix.f a0 (-1)).bind fun t213 => (some (t213.toList == ([] : List UInt8)))) else (some false)))) else (some false))) = some r := H
              have A18 := Aside0.mk A180
              clear A180
              replace H := Option.bind_eq_some_iff.mp H
              obtain ⟨t210, A190, H⟩ := H
              replace H : (if t209 = (mn (wrap64 (a1)) t210) then ((utf_Prefix.f t207 (wrap64 (a2))).bind fun t211 => ((utf_Prefix.f a0 (mn (wrap64 (a1)) (wrap64 (a2)))).bind fun t212 => (if t211.toList = t212.toList then ((utf_Prefix.f a0 (-1)).bind fun t213 => (some (t213.toList == ([] : List UInt8)))) else (some false)))) else (some false)) = some r := H
              have A19 := Aside0.mk A190
              clear A190
              obtain ⟨ji20, hji20⟩ : ∃ j_ : Int, (mn (wrap64 (a1)) t210) = j_ := ⟨_, rfl⟩
              replace H : (if t209 = (ji20) then ((utf_Prefix.f t207 (wrap64 (a2))).bind fun t211 => ((utf_Prefix.f a0 (mn (wrap64 (a1)) (wrap64 (a2)))).bind fun t212 => (if t211.toList = t212.toList then ((utf_Prefix.f a0 (-1)).bind fun t213 => (some (t213.toList == ([] : List UInt8)))) else (some false)))) else (some false)) = some r := by first | (rw [hji20] at H; exact H) | (simp only [hji20] at H ⊢; exact H)
              (try rw [hji20] at A16)
              (try rw [hji20] at A18)
              (try rw [hji20] at A19)
              have hji20_ : (if t210 < (wrap64 (a1)) then t210 else (wrap64 (a1))) = ji20 := hji20
              by_cases c21 : t209 = (ji20)
              · rw [if_pos c21] at H
                have c21b0 : (t209 == (ji20)) = true := beq_iff_eq.mpr c21
                have c21b1 : (t209 != (ji20)) = false := bne_eq_false_iff_eq.mpr c21
                clear c21
                replace H := Option.bind_eq_some_iff.mp H
                obtain ⟨t211, A220, H⟩ := H
                replace H : ((utf_Prefix.f a0 (mn (wrap64 (a1)) (wrap64 (a2)))).bind fun t212 => (if t211.toList = t212.toList then ((utf_Prefix.f a0 (-1)).bind fun t213 => (some (t213.toList == ([] : List UInt8)))) else (some false))) = some r := H
                have A22 := Aside0.mk A220
                clear A220
                obtain ⟨ji23, hji23⟩ : ∃ j_ : Int, (mn (wrap64 (a1)) (wrap64 (a2))) = j_ := ⟨_, rfl⟩
                replace H : ((utf_Prefix.f a0 (ji23)).bind fun t212 => (if t211.toList = t212.toList then ((utf_Prefix.f a0 (-1)).bind fun t213 => (some (t213.toList == ([] : List UInt8)))) else (some false))) = some r := by first | (rw [hji23] at H; exact H) | (simp only [hji23] at H ⊢; exact H)
                (try rw [hji23] at A16)
                (try rw [hji23] at A18)
                (try rw [hji23] at A19)
                (try rw [hji23] at A22)
                have hji23_ : (if (wrap64 (a2)) < (wrap64 (a1)) then (wrap64 (a2)) else (wrap64 (a1))) = ji23 := hji23
                replace H := Option.bind_eq_some_iff.mp H
                obtain ⟨t212, A240, H⟩ := H
                replace H : (if t211.toList = t212.toList then ((utf_Prefix.f a0 (-1)).bind fun t213 => (some (t213.toList == ([] : List UInt8)))) else (some false)) = some r := H
                have A24 := Aside0.mk A240
                clear A240
                by_cases c25 : t211.toList = t212.toList
                · rw [if_pos c25] at H
                  have c25b0 : (t211.toList == t212.toList) = true := beq_iff_eq.mpr c25
                  have c25b1 : (t211.toList != t212.toList) = false := bne_eq_false_iff_eq.mpr c25
                  clear c25
                  replace H := Option.bind_eq_some_iff.mp H
                  obtain ⟨t213, A260, H⟩ := H
                  replace H : (some (t213.toList == ([] : List UInt8))) = some r := H
                  have A26 := Aside0.mk A260
                  clear A260
                  obtain rfl := Option.some.inj H
                  go_wp2_with (first | (go_at_call 29; (with_reducible refine (utf_Valid.calls t207 true _ A16.out).mono ?_); rintro e w27 ⟨rfl, hb⟩; have n0_ := Aside0.mk (below_step (by repeat (first | (with_reducible first | exact HB.out | apply below_alloc | apply pw_below_drewN | apply below_drew1) | exact HB.out)) hb); clear HB; have HB := n0_; clear n0_; (try clear hb); (try clear hb2); (try clear hk); (try clear hi)) | (go_at_call 30; (with_reducible refine (utf_Count.calls t207 t209 _ A18.out).mono ?_); rintro e w28 ⟨rfl, hb⟩; have n0_ := Aside0.mk (below_step (by repeat (first | (with_reducible first | exact HB.out | apply below_alloc | apply pw_below_drewN | apply below_drew1) | exact HB.out)) hb); clear HB; have HB := n0_; clear n0_; (try clear hb); (try clear hb2); (try clear hk); (try clear hi)) | (go_at_call 30; (with_reducible refine (utf_Count.calls a0 t210 _ A19.out).mono ?_); rintro e w29 ⟨rfl, hb⟩; have n0_ := Aside0.mk (below_step (by repeat (first | (with_reducible first | exact HB.out | apply below_alloc | apply pw_below_drewN | apply below_drew1) | exact HB.out)) hb); clear HB; have HB := n0_; clear n0_; (try clear hb); (try clear hb2); (try clear hk); (try clear hi)) | (go_at_call 33; (with_reducible refine (utf_Prefix.calls t207 (wrap64 (a2)) t211 _ A22.out).mono ?_); rintro e w30 ⟨rfl, hb⟩; have n0_ := Aside0.mk (below_step (by repeat (first | (with_reducible first | exact HB.out | apply below_alloc | apply pw_below_drewN | apply below_drew1) | exact HB.out)) hb); clear HB; have HB := n0_; clear n0_; (try clear hb); (try clear hb2); (try clear hk); (try clear hi)) | (go_at_call 33; (with_reducible refine (utf_Prefix.calls a0 ji23 t212 _ A24.out).mono ?_); rintro e w31 ⟨rfl, hb⟩; have n0_ := Aside0.mk (below_step (by repeat (first | (with_reducible first | exact HB.out | apply below_alloc | apply pw_below_drewN | apply below_drew1) | exact HB.out)) hb); clear HB; have HB := n0_; clear n0_; (try clear hb); (try clear hb2); (try clear hk); (try clear hi)) | (go_at_call 33; (with_reducible refine (utf_Prefix.calls a0 (-1) t213 _ A26.out).mono ?_); rintro e w32 ⟨rfl, hb⟩; have n0_ := Aside0.mk (below_step (by repeat (first | (with_reducible first | exact HB.out | apply below_alloc | apply pw_below_drewN | apply below_drew1) | exact HB.out)) hb); clear HB; have HB := n0_; clear n0_; (try clear hb); (try clear hb2); (try clear hk); (try clear hi)))
                  go_ret
                  exact ⟨by first | rfl | (simp [errW_none, errW_some] <;> rfl) | (simp only [← hji20, ← hji23]; first | rfl | (simp [errW_none, errW_some] <;> rfl)) | (simp [*, errW_none, errW_some] <;> rfl), by repeat (first | (with_reducible first | exact HB.out | apply below_alloc | apply pw_below_drewN | apply below_drew1) | exact HB.out)⟩
                · rw [if_neg c25] at H
                  have c25b0 : (t211.toList == t212.toList) = false := beq_eq_false_iff_ne.mpr c25
                  have c25b1 : (t211.toList != t212.toList) = true := bne_iff_ne.mpr c25
                  obtain rfl := Option.some.inj H
                  go_wp2_with (first | (go_at_call 29; (with_reducible refine (utf_Valid.calls t207 true _ A16.out).mono ?_); rintro e w33 ⟨rfl, hb⟩; have n0_ := Aside0.mk (below_step (by repeat (first | (with_reducible first | exact HB.out | apply below_alloc | apply pw_below_drewN | apply below_drew1) | exact HB.out)) hb); clear HB; have HB := n0_; clear n0_; (try clear hb); (try clear hb2); (try clear hk); (try clear hi)) | (go_at_call 30; (with_reducible refine (utf_Count.calls t207 t209 _ A18.out).mono ?_); rintro e w34 ⟨rfl, hb⟩; have n0_ := Aside0.mk (below_step (by repeat (first | (with_reducible first | exact HB.out | apply below_alloc | apply pw_below_drewN | apply below_drew1) | exact HB.out)) hb); clear HB; have HB := n0_; clear n0_; (try clear hb); (try clear hb2); (try clear hk); (try clear hi)) | (go_at_call 30; (with_reducible refine (utf_Count.calls a0 t210 _ A19.out).mono ?_); rintro e w35 ⟨rfl, hb⟩; have n0_ := Aside0.mk (below_step (by repeat (first | (with_reducible first | exact HB.out | apply below_alloc | apply pw_below_drewN | apply below_drew1) | exact HB.out)) hb); clear HB; have HB := n0_; clear n0_; (try clear hb); (try clear hb2); (try clear hk); (try clear hi)) | (go_at_call 33; (with_reducible refine (utf_Prefix.calls t207 (wrap64 (a2)) t211 _ A22.out).mono ?_); rintro e w36 ⟨rfl, hb⟩; have n0_ := Aside0.mk (below_step (by repeat (first | (with_reducible first | exact HB.out | apply below_alloc | apply pw_below_drewN | apply below_drew1) | exact HB.out)) hb); clear HB; have HB := n0_; clear n0_; (try clear hb); (try clear hb2); (try clear hk); (try clear hi)) | (go_at_call 33; (with_reducible refine (utf_Prefix.calls a0 ji23 t212 _ A24.out).mono ?_); rintro e w37 ⟨rfl, hb⟩; have n0_ := Aside0.mk (below_step (by repeat (first | (with_reducible first | exact HB.out | apply below_alloc | apply pw_below_drewN | apply below_drew1) | exact HB.out)) hb); clear HB; have HB := n0_; clear n0_; (try clear hb); (try clear hb2); (try clear hk); (try clear hi)))
                  go_ret
                  exact ⟨by first | rfl | (simp [errW_none, errW_some] <;> rfl) | (simp only [← hji20, ← hji23]; first | rfl | (simp [errW_none, errW_some] <;> rfl)) | (simp [*, errW_none, errW_some] <;> rfl), by repeat (first | (with_reducible first | exact HB.out | apply below_alloc | apply pw_below_drewN | apply below_drew1) | exact HB.out)⟩
              · rw [if_neg c21] at H
                have c21b0 : (t209 == (ji20)) = false := beq_eq_false_iff_ne.mpr c21
                have c21b1 : (t209 != (ji20)) = true := bne_iff_ne.mpr c21
                obtain rfl := Option.some.inj H
                go_wp2_with (first | (go_at_call 29; (with_reducible refine (utf_Valid.calls t207 true _ A16.out).mono ?_); rintro e w38 ⟨rfl, hb⟩; have n0_ := Aside0.mk (below_step (by repeat (first | (with_reducible first | exact HB.out | apply below_alloc | apply pw_below_drewN | apply below_drew1) | exact HB.out)) hb); clear HB; have HB := n0_; clear n0_; (try clear hb); (try clear hb2); (try clear hk); (try clear hi)) | (go_at_call 30; (with_reducible refine (utf_Count.calls t207 t209 _ A18.out).mono ?_); rintro e w39 ⟨rfl, hb⟩; have n0_ := Aside0.mk (below_step (by repeat (first | (with_reducible first | exact HB.out | apply below_alloc | apply pw_below_drewN | apply below_drew1) | exact HB.out)) hb); clear HB; have HB := n0_; clear n0_; (try clear hb); (try clear hb2); (try clear hk); (try clear hi)) | (go_at_call 30; (with_reducible refine (utf_Count.calls a0 t210 _ A19.out).mono ?_); rintro e w40 ⟨rfl, hb⟩; have n0_ := Aside0.mk (below_step (by repeat (first | (with_reducible first | exact HB.out | apply below_alloc | apply pw_below_drewN | apply below_drew1) | exact HB.out)) hb); clear HB; have HB := n0_; clear n0_; (try clear hb); (try clear hb2); (try clear hk); (try clear hi)))
                go_ret
                exact ⟨by first | rfl | (simp [errW_none, errW_some] <;> rfl) | (simp only [← hji20]; first | rfl | (simp [errW_none, errW_some] <;> rfl)) | (simp [*, errW_none, errW_some] <;> rfl), by repeat (first | (with_reducible first | exact HB.out | apply below_alloc | apply pw_below_drewN | apply below_drew1) | exact HB.out)⟩
            · replace c17 := Bool.eq_false_iff.mpr c17
              subst c17
              have H1 : (some false) = some r := by rw [if_neg (show ¬ (false = true) by decide)] at H; exact H
              clear H
              have H := H1
              clear H1
              obtain rfl := Option.some.inj H
              go_wp2_with (first | (go_at_call 29; (with_reducible refine (utf_Valid.calls t207 false _ A16.out).mono ?_); rintro e w41 ⟨rfl, hb⟩; have n0_ := Aside0.mk (below_step (by repeat (first | (with_reducible first | exact HB.out | apply below_alloc | apply pw_below_drewN | apply below_drew1) | exact HB.out)) hb); clear HB; have HB := n0_; clear n0_; (try clear hb); (try clear hb2); (try clear hk); (try clear hi)))
              go_ret
              exact ⟨by first | rfl | (simp [errW_none, errW_some] <;> rfl) | (simp [*, errW_none, errW_some] <;> rfl), by repeat (first | (with_reducible first | exact HB.out | apply below_alloc | apply pw_below_drewN | apply below_drew1) | exact HB.out)⟩
          · replace c15 := Bool.eq_false_iff.mpr c15
            subst c15
            have H1 : (some false) = some r := by rw [if_neg (show ¬ (false = true) by decide)] at H; exact H
            clear H
            have H := H1
            clear H1
            obtain rfl := Option.some.inj H
            go_wp2
            go_ret
            exact ⟨by first | rfl | (simp [errW_none, errW_some] <;> rfl) | (simp [*, errW_none, errW_some] <;> rfl), by repeat (first | (with_reducible first | exact HB.out | apply below_alloc | apply pw_below_drewN | apply below_drew1) | exact HB.out)⟩

/-- THE ONE PURE STATEMENT of phalaropelaw01_UtfPrefix: yours. -/
def phalaropelaw01_UtfPrefix.Pure : Prop := ∀ (a0 : ByteArray) (a1 : Int) (a2 : Int), a0.size ≤ 140737488351232 → (Lit.int .u8 a1).wf = true → (Lit.int .u8 a2).wf = true → ∃ k, phalaropelaw01_UtfPrefix.f k a0 a1 a2 = some true
theorem phalaropelaw01_UtfPrefix.walk (P : phalaropelaw01_UtfPrefix.Pure) (a0 : ByteArray) (a1 : Int) (a2 : Int) (w : World) (w0 : a0.size ≤ 140737488351232) (w1 : (Lit.int .u8 a1).wf = true) (w2 : (Lit.int .u8 a2).wf = true) :
    Calls Try.prog 8 #[.string a0, .int .u8 a1, .int .u8 a2] w fun e w' => e = .returned (.bool true) ∧ Below w.heap.size w w' := by
  obtain ⟨k, h⟩ := P a0 a1 a2 w0 w1 w2
  refine (phalaropelaw01_UtfPrefix.calls k a0 a1 a2 true w h).mono ?_
  rintro e w' ⟨rfl, hd⟩
  exact ⟨rfl, hd⟩

end Go.Proofs.Ytjjmfmlgemdjkaa.PUtf
