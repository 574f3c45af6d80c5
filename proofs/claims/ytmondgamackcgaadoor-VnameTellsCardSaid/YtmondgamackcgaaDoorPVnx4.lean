-- PRINTED by print.py (a twelfth state) out of the translation. Not trusted: Lean checks it.
import Derived.Test.YtmondgamackcgaaDoorPVnx0
import Derived.Test.YtmondgamackcgaaDoorPVnx3
namespace Go.Proofs.YtmondgamackcgaaDoor.PVn
open Go.RowKit Go.Proofs.YtmondgamackcgaaDoorW.PrintWords Go.Proofs.YtmondgamackcgaaDoorW.PrintLast Go.Proofs.YtmondgamackcgaaDoorW.PrintMore
attribute [local go_sem] max2_int min2_int max_two min_two max_three min_three max_four min_four   -- for this text's walks alone
set_option linter.unusedVariables false
set_option linter.unusedSimpArgs false

/-! ### phalaroperef05_May2: function 22 -/
def phalaroperef05_May2.f : Nat → ByteArray → Bool → Option (Bool)
  | 0, _, _ => none
  | k + 1, a0, a1 => if a0.toList = ([] : List UInt8) then (some a1) else (if 0 < (a0.size : Int) then ((phalaroperef02_Word.f (bt a0 0)).bind fun t144 => (if t144 = true then (if 1 ≤ (a0.size : Int) then ((phalaroperef05_May2.f k (a0.extract 1 a0.size) true).bind fun t145 => (some t145)) else (none)) else ((phalaroperef03_Triplet.f a0).bind fun t146 => (if t146 = true then (if 3 ≤ (a0.size : Int) then ((phalaroperef05_May2.f k (a0.extract 3 a0.size) true).bind fun t147 => (some t147)) else (none)) else (if (bt a0 0) = 46 then (if a1 = true then (if 1 ≤ (a0.size : Int) then ((phalaroperef05_May2.f k (a0.extract 1 a0.size) false).bind fun t148 => (some t148)) else (none)) else (some false)) else (some false)))))) else (none))
theorem phalaroperef05_May2.mono_l : ∀ k, (∀ y0 y1, LeO (phalaroperef05_May2.f k y0 y1) (phalaroperef05_May2.f (k + 1) y0 y1))
  | 0 => fun _ _ r h => by simp [phalaroperef05_May2.f] at h
  | k + 1 => by
    have ih0 := phalaroperef05_May2.mono_l k
    · intro y0 y1
      unfold phalaroperef05_May2.f
      repeat' first
      | (with_reducible exact ih0 _ _)
      | (with_reducible exact LeO.refl _)
      | (with_reducible exact LeO.none _)
      | (with_reducible refine LeO.ite ?_ ?_)
      | (with_reducible refine LeO.bind ?_ (fun _ => ?_))
      | exact ih0 _ _
      | exact LeO.none _
      | refine LeO.ite ?_ ?_
      | refine LeO.bind ?_ (fun _ => ?_)
theorem phalaroperef05_May2.mono : ∀ a0 a1 k, LeO (phalaroperef05_May2.f k a0 a1) (phalaroperef05_May2.f (k + 1) a0 a1) := by
  intro a0 a1 k
  have ih0 := phalaroperef05_May2.mono_l k
  exact ih0 a0 a1
set_option maxHeartbeats 8000000 in
set_option maxRecDepth 100000 in
theorem phalaroperef05_May2.calls (k : Nat) : ∀ (a0 : ByteArray) (a1 : Bool) (r : Bool) (w : World) (h : phalaroperef05_May2.f k a0 a1 = some r),
    Calls Tryd.prog 22 #[.string a0, .bool a1] w fun e w' => e = .returned (.bool r) ∧ Drawn0 w w' := by
  induction k using Nat.strongRecOn with
  | _ k ih =>
  intro a0 a1 r w h
  cases k with
  | zero => exact absurd h (by simp [phalaroperef05_May2.f])
  | succ k =>
  simp only [phalaroperef05_May2.f] at h
  have H : (if a0.toList = ([] : List UInt8) then (some a1) else (if 0 < (a0.size : Int) then ((phalaroperef02_Word.f (bt a0 0)).bind fun t144 => (if t144 = true then (if 1 ≤ (a0.size : Int) then ((phalaroperef05_May2.f k (a0.extract 1 a0.size) true).bind fun t145 => (some t145)) else (none)) else ((phalaroperef03_Triplet.f a0).bind fun t146 => (if t146 = true then (if 3 ≤ (a0.size : Int) then ((phalaroperef05_May2.f k (a0.extract 3 a0.size) true).bind fun t147 => (some t147)) else (none)) else (if (bt a0 0) = 46 then (if a1 = true then (if 1 ≤ (a0.size : Int) then ((phalaroperef05_May2.f k (a0.extract 1 a0.size) false).bind fun t148 => (some t148)) else (none)) else (some false)) else (some false)))))) else (none))) = some r := h
  clear h
  by_cases c3 : a0.toList = ([] : List UInt8)
  · rw [if_pos c3] at H
    have c3b0 : (a0.toList == ([] : List UInt8)) = true := beq_iff_eq.mpr c3
    have c3b1 : (a0.toList != ([] : List UInt8)) = false := bne_eq_false_iff_eq.mpr c3
    clear c3
    obtain rfl := Option.some.inj H
    go_enter Tryd.func22, Tryd.ntmps22
    go_wp2
    go_ret
    exact ⟨by first | rfl | (simp; done) | (simp [*]; done), by repeat (first | exact Drawn0.refl _ | apply Drawn0.step)⟩
  · rw [if_neg c3] at H
    have c3b0 : (a0.toList == ([] : List UInt8)) = false := beq_eq_false_iff_ne.mpr c3
    have c3b1 : (a0.toList != ([] : List UInt8)) = true := bne_iff_ne.mpr c3
    by_cases c4 : 0 < (a0.size : Int)
    · rw [if_pos c4] at H
      have c4b0 : decide (0 < (a0.size : Int)) = true := decide_eq_true c4
      have c4b1 : decide (0 < a0.size) = true := decide_eq_true (by omega)
      clear c4
      replace H := Option.bind_eq_some_iff.mp H
      obtain ⟨t144, A60, H⟩ := H
      replace H : (if t144 = true then (if 1 ≤ (a0.size : Int) then ((phalaroperef05_May2.f k (a0.extract 1 a0.size) true).bind fun t145 => (some t145)) else (none)) else ((phalaroperef03_Triplet.f a0).bind fun t146 => (if t146 = true then (if 3 ≤ (a0.size : Int) then ((phalaroperef05_May2.f k (a0.extract 3 a0.size) true).bind fun t147 => (some t147)) else (none)) else (if (bt a0 0) = 46 then (if a1 = true then (if 1 ≤ (a0.size : Int) then ((phalaroperef05_May2.f k (a0.extract 1 a0.size) false).bind fun t148 => (some t148)) else (none)) else (some false)) else (some false))))) = some r := H
      have A6 := Aside0.mk A60
      clear A60
      by_cases c7 : t144 = true
      · subst c7
        have H1 : (if 1 ≤ (a0.size : Int) then ((phalaroperef05_May2.f k (a0.extract 1 a0.size) true).bind fun t145 => (some t145)) else (none)) = some r := by rw [if_pos rfl] at H; exact H
        clear H
        have H := H1
        clear H1
        by_cases c8 : 1 ≤ (a0.size : Int)
        · rw [if_pos c8] at H
          have c8b0 := eq_true c8
          have c8b1 : decide (1 ≤ (a0.size : Int)) = true := decide_eq_true c8
          clear c8
          replace H := Option.bind_eq_some_iff.mp H
          obtain ⟨t145, A90, H⟩ := H
          replace H : (some t145) = some r := H
          have A9 := Aside0.mk A90
          clear A90
          obtain rfl := Option.some.inj H
          have p5 : 0 ≤ (0 : Int) := (by omega)
          have q5 : 0 < a0.size := (by have : (0 : Int) < (a0.size : Int) := of_decide_eq_true (by first | (with_reducible assumption) | assumption); omega)
          have hx5 : ∀ h : 0 < a0.size, ((a0[0]'h).toNat : Int) = bt a0 0 := bt_at a0 0
          clear p5
          have qi5 : (0 < (a0.size : Int)) = True := eq_true (of_decide_eq_true (by first | (with_reducible assumption) | assumption))
          replace q5 := eq_true q5
          go_enter Tryd.func22, Tryd.ntmps22
          go_wp2_with (first | ((with_reducible refine gate_callee (f := 29) rfl ?_); refine goesL_ (some 10) rfl rfl Tryd.func29 (by kernel_rfl) rfl #[.int .u8 (bt a0 0)] rfl (by (try simp only [List.map_toArray, List.map_cons, List.map_nil]); first | done | rfl | (simp only [List.length_drop, List.length_take]; rfl)) ?_; (with_reducible refine (phalaroperef02_Word.calls (bt a0 0) true _ A6.out).mono ?_); rintro e w' ⟨rfl, ⟨nd, rfl⟩⟩; refine ⟨_, rfl, ?_⟩) | ((with_reducible refine gate_callee (f := 22) rfl ?_); refine goesL_ (some 13) rfl rfl Tryd.func22 (by kernel_rfl) rfl #[.string (a0.extract 1 a0.size), .bool true] rfl (by (try simp only [List.map_toArray, List.map_cons, List.map_nil]); first | done | rfl | (simp only [List.length_drop, List.length_take]; rfl)) ?_; (with_reducible refine (ih k (by omega) (a0.extract 1 a0.size) true t145 _ A9.out).mono ?_); rintro e w' ⟨rfl, ⟨nd, rfl⟩⟩; refine ⟨_, rfl, ?_⟩))
          go_ret
          exact ⟨by first | rfl | (simp; done) | (simp [*]; done), by repeat (first | exact Drawn0.refl _ | apply Drawn0.step)⟩
        · rw [if_neg c8] at H
          exact absurd H (by simp)
      · replace c7 := Bool.eq_false_iff.mpr c7
        subst c7
        have H1 : ((phalaroperef03_Triplet.f a0).bind fun t146 => (if t146 = true then (if 3 ≤ (a0.size : Int) then ((phalaroperef05_May2.f k (a0.extract 3 a0.size) true).bind fun t147 => (some t147)) else (none)) else (if (bt a0 0) = 46 then (if a1 = true then (if 1 ≤ (a0.size : Int) then ((phalaroperef05_May2.f k (a0.extract 1 a0.size) false).bind fun t148 => (some t148)) else (none)) else (some false)) else (some false)))) = some r := by rw [if_neg (show ¬ (false = true) by decide)] at H; exact H
        clear H
        have H := H1
        clear H1
        replace H := Option.bind_eq_some_iff.mp H
        obtain ⟨t146, A100, H⟩ := H
        replace H : (if t146 = true then (if 3 ≤ (a0.size : Int) then ((phalaroperef05_May2.f k (a0.extract 3 a0.size) true).bind fun t147 => (some t147)) else (none)) else (if (bt a0 0) = 46 then (if a1 = true then (if 1 ≤ (a0.size : Int) then ((phalaroperef05_May2.f k (a0.extract 1 a0.size) false).bind fun t148 => (some t148)) else (none)) else (some false)) else (some false))) = some r := H
        have A10 := Aside0.mk A100
        clear A100
        by_cases c11 : t146 = true
        · subst c11
          have H1 : (if 3 ≤ (a0.size : Int) then ((phalaroperef05_May2.f k (a0.extract 3 a0.size) true).bind fun t147 => (some t147)) else (none)) = some r := by rw [if_pos rfl] at H; exact H
          clear H
          have H := H1
          clear H1
          by_cases c12 : 3 ≤ (a0.size : Int)
          · rw [if_pos c12] at H
            have c12b0 := eq_true c12
            have c12b1 : decide (3 ≤ (a0.size : Int)) = true := decide_eq_true c12
            clear c12
            replace H := Option.bind_eq_some_iff.mp H
            obtain ⟨t147, A130, H⟩ := H
            replace H : (some t147) = some r := H
            have A13 := Aside0.mk A130
            clear A130
            obtain rfl := Option.some.inj H
            have p5 : 0 ≤ (0 : Int) := (by omega)
            have q5 : 0 < a0.size := (by have : (0 : Int) < (a0.size : Int) := of_decide_eq_true (by first | (with_reducible assumption) | assumption); omega)
            have hx5 : ∀ h : 0 < a0.size, ((a0[0]'h).toNat : Int) = bt a0 0 := bt_at a0 0
            clear p5
            have qi5 : (0 < (a0.size : Int)) = True := eq_true (of_decide_eq_true (by first | (with_reducible assumption) | assumption))
            replace q5 := eq_true q5
            go_enter Tryd.func22, Tryd.ntmps22
            go_wp2_with (first | ((with_reducible refine gate_callee (f := 29) rfl ?_); refine goesL_ (some 10) rfl rfl Tryd.func29 (by kernel_rfl) rfl #[.int .u8 (bt a0 0)] rfl (by (try simp only [List.map_toArray, List.map_cons, List.map_nil]); first | done | rfl | (simp only [List.length_drop, List.length_take]; rfl)) ?_; (with_reducible refine (phalaroperef02_Word.calls (bt a0 0) false _ A6.out).mono ?_); rintro e w' ⟨rfl, ⟨nd, rfl⟩⟩; refine ⟨_, rfl, ?_⟩) | ((with_reducible refine gate_callee (f := 30) rfl ?_); refine goesL_ (some 15) rfl rfl Tryd.func30 (by kernel_rfl) rfl #[.string a0] rfl (by (try simp only [List.map_toArray, List.map_cons, List.map_nil]); first | done | rfl | (simp only [List.length_drop, List.length_take]; rfl)) ?_; (with_reducible refine (phalaroperef03_Triplet.calls a0 true _ A10.out).mono ?_); rintro e w' ⟨rfl, ⟨nd, rfl⟩⟩; refine ⟨_, rfl, ?_⟩) | ((with_reducible refine gate_callee (f := 22) rfl ?_); refine goesL_ (some 18) rfl rfl Tryd.func22 (by kernel_rfl) rfl #[.string (a0.extract 3 a0.size), .bool true] rfl (by (try simp only [List.map_toArray, List.map_cons, List.map_nil]); first | done | rfl | (simp only [List.length_drop, List.length_take]; rfl)) ?_; (with_reducible refine (ih k (by omega) (a0.extract 3 a0.size) true t147 _ A13.out).mono ?_); rintro e w' ⟨rfl, ⟨nd, rfl⟩⟩; refine ⟨_, rfl, ?_⟩))
            go_ret
            exact ⟨by first | rfl | (simp; done) | (simp [*]; done), by repeat (first | exact Drawn0.refl _ | apply Drawn0.step)⟩
          · rw [if_neg c12] at H
            exact absurd H (by simp)
        · replace c11 := Bool.eq_false_iff.mpr c11
          subst c11
          have H1 : (if (bt a0 0) = 46 then (if a1 = true then (if 1 ≤ (a0.size : Int) then ((phalaroperef05_May2.f k (a0.extract 1 a0.size) false).bind fun t148 => (some t148)) else (none)) else (some false)) else (some false)) = some r := by rw [if_neg (show ¬ (false = true) by decide)] at H; exact H
          clear H
          have H := H1
          clear H1
          by_cases c15 : (bt a0 0) = 46
          · rw [if_pos c15] at H
            have c15b0 : ((bt a0 0) == 46) = true := beq_iff_eq.mpr c15
            have c15b1 : ((bt a0 0) != 46) = false := bne_eq_false_iff_eq.mpr c15
            clear c15
            by_cases c16 : a1 = true
            · subst c16
              have H1 : (if 1 ≤ (a0.size : Int) then ((phalaroperef05_May2.f k (a0.extract 1 a0.size) false).bind fun t148 => (some t148)) else (none)) = some r := by rw [if_pos rfl] at H; exact H
              clear H
              have H := H1
              clear H1
              by_cases c17 : 1 ≤ (a0.size : Int)
              · rw [if_pos c17] at H
                have c17b0 := eq_true c17
                have c17b1 : decide (1 ≤ (a0.size : Int)) = true := decide_eq_true c17
                clear c17
                replace H := Option.bind_eq_some_iff.mp H
                obtain ⟨t148, A180, H⟩ := H
                replace H : (some t148) = some r := H
                have A18 := Aside0.mk A180
                clear A180
                obtain rfl := Option.some.inj H
                have p5 : 0 ≤ (0 : Int) := (by omega)
                have q5 : 0 < a0.size := (by have : (0 : Int) < (a0.size : Int) := of_decide_eq_true (by first | (with_reducible assumption) | assumption); omega)
                have hx5 : ∀ h : 0 < a0.size, ((a0[0]'h).toNat : Int) = bt a0 0 := bt_at a0 0
                clear p5
                have qi5 : (0 < (a0.size : Int)) = True := eq_true (of_decide_eq_true (by first | (with_reducible assumption) | assumption))
                replace q5 := eq_true q5
                go_enter Tryd.func22, Tryd.ntmps22
                go_wp2_with (first | ((with_reducible refine gate_callee (f := 29) rfl ?_); refine goesL_ (some 10) rfl rfl Tryd.func29 (by kernel_rfl) rfl #[.int .u8 (bt a0 0)] rfl (by (try simp only [List.map_toArray, List.map_cons, List.map_nil]); first | done | rfl | (simp only [List.length_drop, List.length_take]; rfl)) ?_; (with_reducible refine (phalaroperef02_Word.calls (bt a0 0) false _ A6.out).mono ?_); rintro e w' ⟨rfl, ⟨nd, rfl⟩⟩; refine ⟨_, rfl, ?_⟩) | ((with_reducible refine gate_callee (f := 30) rfl ?_); refine goesL_ (some 15) rfl rfl Tryd.func30 (by kernel_rfl) rfl #[.string a0] rfl (by (try simp only [List.map_toArray, List.map_cons, List.map_nil]); first | done | rfl | (simp only [List.length_drop, List.length_take]; rfl)) ?_; (with_reducible refine (phalaroperef03_Triplet.calls a0 false _ A10.out).mono ?_); rintro e w' ⟨rfl, ⟨nd, rfl⟩⟩; refine ⟨_, rfl, ?_⟩; have p14 : 0 ≤ (0 : Int) := (by omega); have q14 : 0 < a0.size := (by have : (0 : Int) < (a0.size : Int) := of_decide_eq_true (by first | (with_reducible assumption) | assumption); omega); have hx14 : ∀ h : 0 < a0.size, ((a0[0]'h).toNat : Int) = bt a0 0 := bt_at a0 0; clear p14; have qi14 : (0 < (a0.size : Int)) = True := eq_true (of_decide_eq_true (by first | (with_reducible assumption) | assumption)); replace q14 := eq_true q14) | (go_at_call 22; (with_reducible refine (ih k (by omega) (a0.extract 1 a0.size) false t148 _ A18.out).mono ?_); rintro e w' ⟨rfl, ⟨nd, rfl⟩⟩))
                go_ret
                exact ⟨by first | rfl | (simp; done) | (simp [*]; done), by repeat (first | exact Drawn0.refl _ | apply Drawn0.step)⟩
              · rw [if_neg c17] at H
                exact absurd H (by simp)
            · replace c16 := Bool.eq_false_iff.mpr c16
              subst c16
              have H1 : (some false) = some r := by rw [if_neg (show ¬ (false = true) by decide)] at H; exact H
              clear H
              have H := H1
              clear H1
              obtain rfl := Option.some.inj H
              have p5 : 0 ≤ (0 : Int) := (by omega)
              have q5 : 0 < a0.size := (by have : (0 : Int) < (a0.size : Int) := of_decide_eq_true (by first | (with_reducible assumption) | assumption); omega)
              have hx5 : ∀ h : 0 < a0.size, ((a0[0]'h).toNat : Int) = bt a0 0 := bt_at a0 0
              clear p5
              have qi5 : (0 < (a0.size : Int)) = True := eq_true (of_decide_eq_true (by first | (with_reducible assumption) | assumption))
              replace q5 := eq_true q5
              go_enter Tryd.func22, Tryd.ntmps22
              go_wp2_with (first | ((with_reducible refine gate_callee (f := 29) rfl ?_); refine goesL_ (some 10) rfl rfl Tryd.func29 (by kernel_rfl) rfl #[.int .u8 (bt a0 0)] rfl (by (try simp only [List.map_toArray, List.map_cons, List.map_nil]); first | done | rfl | (simp only [List.length_drop, List.length_take]; rfl)) ?_; (with_reducible refine (phalaroperef02_Word.calls (bt a0 0) false _ A6.out).mono ?_); rintro e w' ⟨rfl, ⟨nd, rfl⟩⟩; refine ⟨_, rfl, ?_⟩) | ((with_reducible refine gate_callee (f := 30) rfl ?_); refine goesL_ (some 15) rfl rfl Tryd.func30 (by kernel_rfl) rfl #[.string a0] rfl (by (try simp only [List.map_toArray, List.map_cons, List.map_nil]); first | done | rfl | (simp only [List.length_drop, List.length_take]; rfl)) ?_; (with_reducible refine (phalaroperef03_Triplet.calls a0 false _ A10.out).mono ?_); rintro e w' ⟨rfl, ⟨nd, rfl⟩⟩; refine ⟨_, rfl, ?_⟩; have p14 : 0 ≤ (0 : Int) := (by omega); have q14 : 0 < a0.size := (by have : (0 : Int) < (a0.size : Int) := of_decide_eq_true (by first | (with_reducible assumption) | assumption); omega); have hx14 : ∀ h : 0 < a0.size, ((a0[0]'h).toNat : Int) = bt a0 0 := bt_at a0 0; clear p14; have qi14 : (0 < (a0.size : Int)) = True := eq_true (of_decide_eq_true (by first | (with_reducible assumption) | assumption)); replace q14 := eq_true q14))
              go_ret
              exact ⟨by first | rfl | (simp; done) | (simp [*]; done), by repeat (first | exact Drawn0.refl _ | apply Drawn0.step)⟩
          · rw [if_neg c15] at H
            have c15b0 : ((bt a0 0) == 46) = false := beq_eq_false_iff_ne.mpr c15
            have c15b1 : ((bt a0 0) != 46) = true := bne_iff_ne.mpr c15
            obtain rfl := Option.some.inj H
            have p5 : 0 ≤ (0 : Int) := (by omega)
            have q5 : 0 < a0.size := (by have : (0 : Int) < (a0.size : Int) := of_decide_eq_true (by first | (with_reducible assumption) | assumption); omega)
            have hx5 : ∀ h : 0 < a0.size, ((a0[0]'h).toNat : Int) = bt a0 0 := bt_at a0 0
            clear p5
            have qi5 : (0 < (a0.size : Int)) = True := eq_true (of_decide_eq_true (by first | (with_reducible assumption) | assumption))
            replace q5 := eq_true q5
            go_enter Tryd.func22, Tryd.ntmps22
            go_wp2_with (first | ((with_reducible refine gate_callee (f := 29) rfl ?_); refine goesL_ (some 10) rfl rfl Tryd.func29 (by kernel_rfl) rfl #[.int .u8 (bt a0 0)] rfl (by (try simp only [List.map_toArray, List.map_cons, List.map_nil]); first | done | rfl | (simp only [List.length_drop, List.length_take]; rfl)) ?_; (with_reducible refine (phalaroperef02_Word.calls (bt a0 0) false _ A6.out).mono ?_); rintro e w' ⟨rfl, ⟨nd, rfl⟩⟩; refine ⟨_, rfl, ?_⟩) | ((with_reducible refine gate_callee (f := 30) rfl ?_); refine goesL_ (some 15) rfl rfl Tryd.func30 (by kernel_rfl) rfl #[.string a0] rfl (by (try simp only [List.map_toArray, List.map_cons, List.map_nil]); first | done | rfl | (simp only [List.length_drop, List.length_take]; rfl)) ?_; (with_reducible refine (phalaroperef03_Triplet.calls a0 false _ A10.out).mono ?_); rintro e w' ⟨rfl, ⟨nd, rfl⟩⟩; refine ⟨_, rfl, ?_⟩; have p14 : 0 ≤ (0 : Int) := (by omega); have q14 : 0 < a0.size := (by have : (0 : Int) < (a0.size : Int) := of_decide_eq_true (by first | (with_reducible assumption) | assumption); omega); have hx14 : ∀ h : 0 < a0.size, ((a0[0]'h).toNat : Int) = bt a0 0 := bt_at a0 0; clear p14; have qi14 : (0 < (a0.size : Int)) = True := eq_true (of_decide_eq_true (by first | (with_reducible assumption) | assumption)); replace q14 := eq_true q14))
            go_ret
            exact ⟨by first | rfl | (simp; done) | (simp [*]; done), by repeat (first | exact Drawn0.refl _ | apply Drawn0.step)⟩
    · rw [if_neg c4] at H
      exact absurd H (by simp)

/-! ### phalaroperef05_May: function 15 -/
def phalaroperef05_May.f (k : Nat) (a0 : ByteArray) : Option (Bool) := (phalaroperef05_May2.f k a0 false).bind fun t149 => (some t149)
theorem phalaroperef05_May.mono : ∀ a0 k, LeO (phalaroperef05_May.f k a0) (phalaroperef05_May.f (k + 1) a0) := by
  intro a0 k
  unfold phalaroperef05_May.f
  repeat' first
      | (with_reducible exact phalaroperef05_May2.mono _ _ _)
      | (with_reducible exact LeO.refl _)
      | (with_reducible exact LeO.none _)
      | (with_reducible refine LeO.ite ?_ ?_)
      | (with_reducible refine LeO.bind ?_ (fun _ => ?_))
      | exact phalaroperef05_May2.mono _ _ _
      | exact LeO.none _
      | refine LeO.ite ?_ ?_
      | refine LeO.bind ?_ (fun _ => ?_)
set_option maxHeartbeats 8000000 in
set_option maxRecDepth 100000 in
theorem phalaroperef05_May.calls (k : Nat) (a0 : ByteArray) (r : Bool) (w : World) (h : phalaroperef05_May.f k a0 = some r) :
    Calls Tryd.prog 15 #[.string a0] w fun e w' => e = .returned (.bool r) ∧ Drawn0 w w' := by
  have H : ((phalaroperef05_May2.f k a0 false).bind fun t149 => (some t149)) = some r := h
  clear h
  replace H := Option.bind_eq_some_iff.mp H
  obtain ⟨t149, A20, H⟩ := H
  replace H : (some t149) = some r := H
  have A2 := Aside0.mk A20
  clear A20
  obtain rfl := Option.some.inj H
  go_enter Tryd.func15, Tryd.ntmps15
  go_wp2_with (first | ((with_reducible refine gate_callee (f := 22) rfl ?_); refine goesL_ (some 4) rfl rfl Tryd.func22 (by kernel_rfl) rfl #[.string a0, .bool false] rfl (by (try simp only [List.map_toArray, List.map_cons, List.map_nil]); first | done | rfl | (simp only [List.length_drop, List.length_take]; rfl)) ?_; (with_reducible refine (phalaroperef05_May2.calls k a0 false t149 _ A2.out).mono ?_); rintro e w' ⟨rfl, ⟨nd, rfl⟩⟩; refine ⟨_, rfl, ?_⟩))
  go_ret
  exact ⟨by first | rfl | (simp; done) | (simp [*]; done), by repeat (first | exact Drawn0.refl _ | apply Drawn0.step)⟩

/-! ### phalaroperef05_begins: function 23 -/
def phalaroperef05_begins.f (k : Nat) (a0 : ByteArray) : Option (Bool) := (phalaroperef05_May.f k a0).bind fun t150 => (if t150 = true then (some true) else (if a0.size + 1 ≤ 9223372036854775807 then ((phalaroperef05_May.f k (a0 ++ (⟨#[97]⟩ : ByteArray))).bind fun t151 => (if t151 = true then (some true) else (if a0.size + 2 ≤ 9223372036854775807 then ((phalaroperef05_May.f k (a0 ++ (⟨#[52, 49]⟩ : ByteArray))).bind fun t152 => (if t152 = true then (some true) else ((phalaroperef05_May.f k (a0 ++ (⟨#[49]⟩ : ByteArray))).bind fun t153 => (some t153)))) else (none)))) else (none)))
theorem phalaroperef05_begins.mono : ∀ a0 k, LeO (phalaroperef05_begins.f k a0) (phalaroperef05_begins.f (k + 1) a0) := by
  intro a0 k
  unfold phalaroperef05_begins.f
  repeat' first
      | (with_reducible exact phalaroperef05_May.mono _ _)
      | (with_reducible exact LeO.refl _)
      | (with_reducible exact LeO.none _)
      | (with_reducible refine LeO.ite ?_ ?_)
      | (with_reducible refine LeO.bind ?_ (fun _ => ?_))
      | exact phalaroperef05_May.mono _ _
      | exact LeO.none _
      | refine LeO.ite ?_ ?_
      | refine LeO.bind ?_ (fun _ => ?_)
set_option maxHeartbeats 8000000 in
set_option maxRecDepth 100000 in
theorem phalaroperef05_begins.calls (k : Nat) (a0 : ByteArray) (r : Bool) (w : World) (h : phalaroperef05_begins.f k a0 = some r) :
    Calls Tryd.prog 23 #[.string a0] w fun e w' => e = .returned (.bool r) ∧ Drawn0 w w' := by
  have H : ((phalaroperef05_May.f k a0).bind fun t150 => (if t150 = true then (some true) else (if a0.size + 1 ≤ 9223372036854775807 then ((phalaroperef05_May.f k (a0 ++ (⟨#[97]⟩ : ByteArray))).bind fun t151 => (if t151 = true then (some true) else (if a0.size + 2 ≤ 9223372036854775807 then ((phalaroperef05_May.f k (a0 ++ (⟨#[52, 49]⟩ : ByteArray))).bind fun t152 => (if t152 = true then (some true) else ((phalaroperef05_May.f k (a0 ++ (⟨#[49]⟩ : ByteArray))).bind fun t153 => (some t153)))) else (none)))) else (none)))) = some r := h
  clear h
  replace H := Option.bind_eq_some_iff.mp H
  obtain ⟨t150, A20, H⟩ := H
  replace H : (if t150 = true then (some true) else (if a0.size + 1 ≤ 9223372036854775807 then ((phalaroperef05_May.f k (a0 ++ (⟨#[97]⟩ : ByteArray))).bind fun t151 => (if t151 = true then (some true) else (if a0.size + 2 ≤ 9223372036854775807 then ((phalaroperef05_May.f k (a0 ++ (⟨#[52, 49]⟩ : ByteArray))).bind fun t152 => (if t152 = true then (some true) else ((phalaroperef05_May.f k (a0 ++ (⟨#[49]⟩ : ByteArray))).bind fun t153 => (some t153)))) else (none)))) else (none))) = some r := H
  have A2 := Aside0.mk A20
  clear A20
  by_cases c3 : t150 = true
  · subst c3
    have H1 : (some true) = some r := by rw [if_pos rfl] at H; exact H
    clear H
    have H := H1
    clear H1
    obtain rfl := Option.some.inj H
    go_enter Tryd.func23, Tryd.ntmps23
    go_wp2_with (first | ((with_reducible refine gate_callee (f := 15) rfl ?_); refine goesL_ (some 4) rfl rfl Tryd.func15 (by kernel_rfl) rfl #[.string a0] rfl (by (try simp only [List.map_toArray, List.map_cons, List.map_nil]); first | done | rfl | (simp only [List.length_drop, List.length_take]; rfl)) ?_; (with_reducible refine (phalaroperef05_May.calls k a0 true _ A2.out).mono ?_); rintro e w' ⟨rfl, ⟨nd, rfl⟩⟩; refine ⟨_, rfl, ?_⟩))
    go_ret
    exact ⟨by first | rfl | (simp; done) | (simp [*]; done), by repeat (first | exact Drawn0.refl _ | apply Drawn0.step)⟩
  · replace c3 := Bool.eq_false_iff.mpr c3
    subst c3
    have H1 : (if a0.size + 1 ≤ 9223372036854775807 then ((phalaroperef05_May.f k (a0 ++ (⟨#[97]⟩ : ByteArray))).bind fun t151 => (if t151 = true then (some true) else (if a0.size + 2 ≤ 9223372036854775807 then ((phalaroperef05_May.f k (a0 ++ (⟨#[52, 49]⟩ : ByteArray))).bind fun t152 => (if t152 = true then (some true) else ((phalaroperef05_May.f k (a0 ++ (⟨#[49]⟩ : ByteArray))).bind fun t153 => (some t153)))) else (none)))) else (none)) = some r := by rw [if_neg (show ¬ (false = true) by decide)] at H; exact H
    clear H
    have H := H1
    clear H1
    by_cases c4 : a0.size + 1 ≤ 9223372036854775807
    · rw [if_pos c4] at H
      have c4b0 := eq_true c4
      have c4b1 : decide (a0.size + 1 ≤ 9223372036854775807) = true := decide_eq_true c4
      try have c4b2 : (9223372036854775807 < a0.size + 1) = False := eq_false (Nat.not_lt.2 c4)
      replace H := Option.bind_eq_some_iff.mp H
      obtain ⟨t151, A50, H⟩ := H
      replace H : (if t151 = true then (some true) else (if a0.size + 2 ≤ 9223372036854775807 then ((phalaroperef05_May.f k (a0 ++ (⟨#[52, 49]⟩ : ByteArray))).bind fun t152 => (if t152 = true then (some true) else ((phalaroperef05_May.f k (a0 ++ (⟨#[49]⟩ : ByteArray))).bind fun t153 => (some t153)))) else (none))) = some r := H
      have A5 := Aside0.mk A50
      clear A50
      by_cases c6 : t151 = true
      · subst c6
        have H1 : (some true) = some r := by rw [if_pos rfl] at H; exact H
        clear H
        have H := H1
        clear H1
        obtain rfl := Option.some.inj H
        go_enter Tryd.func23, Tryd.ntmps23
        go_wp2_with (first | ((with_reducible refine gate_callee (f := 15) rfl ?_); refine goesL_ (some 4) rfl rfl Tryd.func15 (by kernel_rfl) rfl #[.string a0] rfl (by (try simp only [List.map_toArray, List.map_cons, List.map_nil]); first | done | rfl | (simp only [List.length_drop, List.length_take]; rfl)) ?_; (with_reducible refine (phalaroperef05_May.calls k a0 false _ A2.out).mono ?_); rintro e w' ⟨rfl, ⟨nd, rfl⟩⟩; refine ⟨_, rfl, ?_⟩) | (go_at_call 15; (with_reducible refine (phalaroperef05_May.calls k (a0 ++ (⟨#[97]⟩ : ByteArray)) true _ A5.out).mono ?_); rintro e w' ⟨rfl, ⟨nd, rfl⟩⟩))
        go_ret
        exact ⟨by first | rfl | (simp; done) | (simp [*]; done), by repeat (first | exact Drawn0.refl _ | apply Drawn0.step)⟩
      · replace c6 := Bool.eq_false_iff.mpr c6
        subst c6
        have H1 : (if a0.size + 2 ≤ 9223372036854775807 then ((phalaroperef05_May.f k (a0 ++ (⟨#[52, 49]⟩ : ByteArray))).bind fun t152 => (if t152 = true then (some true) else ((phalaroperef05_May.f k (a0 ++ (⟨#[49]⟩ : ByteArray))).bind fun t153 => (some t153)))) else (none)) = some r := by rw [if_neg (show ¬ (false = true) by decide)] at H; exact H
        clear H
        have H := H1
        clear H1
        by_cases c7 : a0.size + 2 ≤ 9223372036854775807
        · rw [if_pos c7] at H
          have c7b0 := eq_true c7
          have c7b1 : decide (a0.size + 2 ≤ 9223372036854775807) = true := decide_eq_true c7
          try have c7b2 : (9223372036854775807 < a0.size + 2) = False := eq_false (Nat.not_lt.2 c7)
          replace H := Option.bind_eq_some_iff.mp H
          obtain ⟨t152, A80, H⟩ := H
          replace H : (if t152 = true then (some true) else ((phalaroperef05_May.f k (a0 ++ (⟨#[49]⟩ : ByteArray))).bind fun t153 => (some t153))) = some r := H
          have A8 := Aside0.mk A80
          clear A80
          by_cases c9 : t152 = true
          · subst c9
            have H1 : (some true) = some r := by rw [if_pos rfl] at H; exact H
            clear H
            have H := H1
            clear H1
            obtain rfl := Option.some.inj H
            go_enter Tryd.func23, Tryd.ntmps23
            go_wp2_with (first | ((with_reducible refine gate_callee (f := 15) rfl ?_); refine goesL_ (some 4) rfl rfl Tryd.func15 (by kernel_rfl) rfl #[.string a0] rfl (by (try simp only [List.map_toArray, List.map_cons, List.map_nil]); first | done | rfl | (simp only [List.length_drop, List.length_take]; rfl)) ?_; (with_reducible refine (phalaroperef05_May.calls k a0 false _ A2.out).mono ?_); rintro e w' ⟨rfl, ⟨nd, rfl⟩⟩; refine ⟨_, rfl, ?_⟩) | (go_at_call 15; (with_reducible refine (phalaroperef05_May.calls k (a0 ++ (⟨#[97]⟩ : ByteArray)) false _ A5.out).mono ?_); rintro e w' ⟨rfl, ⟨nd, rfl⟩⟩) | (go_at_call 15; (with_reducible refine (phalaroperef05_May.calls k (a0 ++ (⟨#[52, 49]⟩ : ByteArray)) true _ A8.out).mono ?_); rintro e w' ⟨rfl, ⟨nd, rfl⟩⟩))
            go_ret
            exact ⟨by first | rfl | (simp; done) | (simp [*]; done), by repeat (first | exact Drawn0.refl _ | apply Drawn0.step)⟩
          · replace c9 := Bool.eq_false_iff.mpr c9
            subst c9
            have H1 : ((phalaroperef05_May.f k (a0 ++ (⟨#[49]⟩ : ByteArray))).bind fun t153 => (some t153)) = some r := by rw [if_neg (show ¬ (false = true) by decide)] at H; exact H
            clear H
            have H := H1
            clear H1
            replace H := Option.bind_eq_some_iff.mp H
            obtain ⟨t153, A100, H⟩ := H
            replace H : (some t153) = some r := H
            have A10 := Aside0.mk A100
            clear A100
            obtain rfl := Option.some.inj H
            go_enter Tryd.func23, Tryd.ntmps23
            go_wp2_with (first | ((with_reducible refine gate_callee (f := 15) rfl ?_); refine goesL_ (some 4) rfl rfl Tryd.func15 (by kernel_rfl) rfl #[.string a0] rfl (by (try simp only [List.map_toArray, List.map_cons, List.map_nil]); first | done | rfl | (simp only [List.length_drop, List.length_take]; rfl)) ?_; (with_reducible refine (phalaroperef05_May.calls k a0 false _ A2.out).mono ?_); rintro e w' ⟨rfl, ⟨nd, rfl⟩⟩; refine ⟨_, rfl, ?_⟩) | (go_at_call 15; (with_reducible refine (phalaroperef05_May.calls k (a0 ++ (⟨#[97]⟩ : ByteArray)) false _ A5.out).mono ?_); rintro e w' ⟨rfl, ⟨nd, rfl⟩⟩) | (go_at_call 15; (with_reducible refine (phalaroperef05_May.calls k (a0 ++ (⟨#[52, 49]⟩ : ByteArray)) false _ A8.out).mono ?_); rintro e w' ⟨rfl, ⟨nd, rfl⟩⟩) | (go_at_call 15; (with_reducible refine (phalaroperef05_May.calls k (a0 ++ (⟨#[49]⟩ : ByteArray)) t153 _ A10.out).mono ?_); rintro e w' ⟨rfl, ⟨nd, rfl⟩⟩))
            go_ret
            exact ⟨by first | rfl | (simp; done) | (simp [*]; done), by repeat (first | exact Drawn0.refl _ | apply Drawn0.step)⟩
        · rw [if_neg c7] at H
          exact absurd H (by simp)
    · rw [if_neg c4] at H
      exact absurd H (by simp)

/-! ### phalaroperef05_Bad: function 16 -/
def phalaroperef05_Bad.l0 : Nat → ByteArray → Int → Option (Int)
  | 0, _, _ => none
  | k + 1, x0, x3 => if x3 < (x0.size : Int) then (if 0 ≤ (wrap64 (x3 + 1)) then (if (wrap64 (x3 + 1)) ≤ (x0.size : Int) then ((phalaroperef05_begins.f k (x0.extract 0 ((wrap64 (x3 + 1)) : Int).toNat)).bind fun t154 => (if t154 = true then (phalaroperef05_Bad.l0 k x0 (wrap64 (x3 + 1))) else (some x3))) else (none)) else (none)) else (some x3)
def phalaroperef05_Bad.f (k : Nat) (a0 : ByteArray) : Option (Int) := phalaroperef05_Bad.l0 k a0 0
theorem phalaroperef05_Bad.mono_l : ∀ k, (∀ y0 y1, LeO (phalaroperef05_Bad.l0 k y0 y1) (phalaroperef05_Bad.l0 (k + 1) y0 y1))
  | 0 => fun _ _ r h => by simp [phalaroperef05_Bad.l0] at h
  | k + 1 => by
    have ih0 := phalaroperef05_Bad.mono_l k
    · intro y0 y1
      unfold phalaroperef05_Bad.l0
      repeat' first
      | (with_reducible exact ih0 _ _)
      | (with_reducible exact phalaroperef05_begins.mono _ _)
      | (with_reducible exact LeO.refl _)
      | (with_reducible exact LeO.none _)
      | (with_reducible refine LeO.ite ?_ ?_)
      | (with_reducible refine LeO.bind ?_ (fun _ => ?_))
      | exact ih0 _ _
      | exact phalaroperef05_begins.mono _ _
      | exact LeO.none _
      | refine LeO.ite ?_ ?_
      | refine LeO.bind ?_ (fun _ => ?_)
theorem phalaroperef05_Bad.mono : ∀ a0 k, LeO (phalaroperef05_Bad.f k a0) (phalaroperef05_Bad.f (k + 1) a0) := by
  intro a0 k
  have ih0 := phalaroperef05_Bad.mono_l k
  unfold phalaroperef05_Bad.f
  repeat' first
      | (with_reducible exact ih0 _ _)
      | (with_reducible exact phalaroperef05_begins.mono _ _)
      | (with_reducible exact LeO.refl _)
      | (with_reducible exact LeO.none _)
      | (with_reducible refine LeO.ite ?_ ?_)
      | (with_reducible refine LeO.bind ?_ (fun _ => ?_))
      | exact ih0 _ _
      | exact phalaroperef05_begins.mono _ _
      | exact LeO.none _
      | refine LeO.ite ?_ ?_
      | refine LeO.bind ?_ (fun _ => ?_)
set_option maxHeartbeats 8000000 in
set_option maxRecDepth 100000 in
theorem phalaroperef05_Bad.calls (k : Nat) (a0 : ByteArray) (r : Int) (w : World) (h : phalaroperef05_Bad.f k a0 = some r) :
    Calls Tryd.prog 16 #[.string a0] w fun e w' => e = .returned (.int .i64 r) ∧ Drawn0 w w' := by
  have H : (phalaroperef05_Bad.l0 k a0 0) = some r := h
  clear h
  have H' := Aside0.mk H
  clear H
  go_enter Tryd.func16, Tryd.ntmps16
  go_wp2
  go_loopg [3] k (fun kq v3 w' => ∃ (x3_1 : Int), v3 = .int .i64 x3_1 ∧ Aside0 (phalaroperef05_Bad.l0 kq a0 x3_1 = some r) ∧ Aside0 (kq ≤ k) ∧ Drawn0 w w')
  case atStart => exact ⟨(0), (by first | rfl | (simp; done) | (simp [*]; done)), H', ⟨Nat.le_refl _⟩, by repeat (first | exact Drawn0.refl _ | apply Drawn0.step)⟩
  case round =>
    clear H'
    try clear c1
    obtain ⟨x3_1, rfl, HA, HK1, ⟨m1, rfl⟩⟩ := hrel
    cases gk with
    | zero => exact absurd HA.out (by simp [phalaroperef05_Bad.l0])
    | succ k1 =>
      have H := HA.out
      clear HA
      simp only [phalaroperef05_Bad.l0] at H
      by_cases c2 : x3_1 < (a0.size : Int)
      · rw [if_pos c2] at H
        have c2b0 : decide (x3_1 < (a0.size : Int)) = true := decide_eq_true c2
        clear c2
        obtain ⟨ji3, hji3⟩ : ∃ j_ : Int, (wrap64 (x3_1 + 1)) = j_ := ⟨_, rfl⟩
        replace H : (if 0 ≤ (ji3) then (if (ji3) ≤ (a0.size : Int) then ((phalaroperef05_begins.f k1 (a0.extract 0 ((ji3) : Int).toNat)).bind fun t154 => (if t154 = true then (phalaroperef05_Bad.l0 k1 a0 ji3) else (some x3_1))) else (none)) else (none)) = some r := by first | (rw [hji3] at H; exact H) | (simp only [hji3] at H ⊢; exact H)
        have hji3w : (IntKind.i64.wrap (x3_1 + 1)) = ji3 := (i64_w _).trans hji3
        by_cases c4 : 0 ≤ (ji3)
        · rw [if_pos c4] at H
          have c4b0 := eq_true c4
          have c4b1 : decide (0 ≤ (ji3)) = true := decide_eq_true c4
          clear c4
          by_cases c5 : (ji3) ≤ (a0.size : Int)
          · rw [if_pos c5] at H
            have c5b0 := eq_true c5
            have c5b1 : decide ((ji3) ≤ (a0.size : Int)) = true := decide_eq_true c5
            clear c5
            replace H := Option.bind_eq_some_iff.mp H
            obtain ⟨t154, A60, H⟩ := H
            replace H : (if t154 = true then (phalaroperef05_Bad.l0 k1 a0 ji3) else (some x3_1)) = some r := H
            have A6 := Aside0.mk A60
            clear A60
            by_cases c7 : t154 = true
            · subst c7
              have H1 : (phalaroperef05_Bad.l0 k1 a0 ji3) = some r := by rw [if_pos rfl] at H; exact H
              clear H
              have H := H1
              clear H1
              have H' := Aside0.mk H
              clear H
              go_wp2_with (first | (go_at_call 23; (with_reducible refine (phalaroperef05_begins.calls k1 (a0.extract 0 ((ji3) : Int).toNat) true _ A6.out).mono ?_); rintro e w' ⟨rfl, ⟨nd, rfl⟩⟩))
              go_roundg k1
              case measure => have := HK1.out; omega
              case rel => exact ⟨(ji3), (by first | rfl | (simp; done) | (simp only [← hji3] <;> (first | rfl | simp)) | (simp [*]; done)), H', ⟨by have := HK1.out; omega⟩, by repeat (first | exact Drawn0.refl _ | apply Drawn0.step)⟩
            · replace c7 := Bool.eq_false_iff.mpr c7
              subst c7
              have H1 : (some x3_1) = some r := by rw [if_neg (show ¬ (false = true) by decide)] at H; exact H
              clear H
              have H := H1
              clear H1
              obtain rfl := Option.some.inj H
              go_wp2_with (first | (go_at_call 23; (with_reducible refine (phalaroperef05_begins.calls k1 (a0.extract 0 ((ji3) : Int).toNat) false _ A6.out).mono ?_); rintro e w' ⟨rfl, ⟨nd, rfl⟩⟩))
              go_ret
              exact ⟨by first | rfl | (simp; done) | (simp only [← hji3] <;> (first | rfl | simp)) | (simp [*]; done), by repeat (first | exact Drawn0.refl _ | apply Drawn0.step)⟩
          · rw [if_neg c5] at H
            exact absurd H (by simp)
        · rw [if_neg c4] at H
          exact absurd H (by simp)
      · rw [if_neg c2] at H
        have c2b0 : decide (x3_1 < (a0.size : Int)) = false := decide_eq_false c2
        clear c2
        obtain rfl := Option.some.inj H
        go_wp2
        go_ret
        exact ⟨by first | rfl | (simp; done) | (simp [*]; done), by repeat (first | exact Drawn0.refl _ | apply Drawn0.step)⟩

/-! ### phalaroperef05_End: function 17 -/
def phalaroperef05_End.l0 : Nat → ByteArray → Int → Option (Int)
  | 0, _, _ => none
  | k + 1, x0, x3 => if x3 > 0 then (if 0 ≤ x3 then (if x3 ≤ (x0.size : Int) then ((phalaroperef05_May.f k (x0.extract 0 (x3 : Int).toNat)).bind fun t155 => (if t155 = true then (some x3) else (phalaroperef05_End.l0 k x0 (wrap64 (x3 - 1))))) else (none)) else (none)) else (some 0)
def phalaroperef05_End.f (k : Nat) (a0 : ByteArray) : Option (Int) := phalaroperef05_End.l0 k a0 (a0.size : Int)
theorem phalaroperef05_End.mono_l : ∀ k, (∀ y0 y1, LeO (phalaroperef05_End.l0 k y0 y1) (phalaroperef05_End.l0 (k + 1) y0 y1))
  | 0 => fun _ _ r h => by simp [phalaroperef05_End.l0] at h
  | k + 1 => by
    have ih0 := phalaroperef05_End.mono_l k
    · intro y0 y1
      unfold phalaroperef05_End.l0
      repeat' first
      | (with_reducible exact ih0 _ _)
      | (with_reducible exact phalaroperef05_May.mono _ _)
      | (with_reducible exact LeO.refl _)
      | (with_reducible exact LeO.none _)
      | (with_reducible refine LeO.ite ?_ ?_)
      | (with_reducible refine LeO.bind ?_ (fun _ => ?_))
      | exact ih0 _ _
      | exact phalaroperef05_May.mono _ _
      | exact LeO.none _
      | refine LeO.ite ?_ ?_
      | refine LeO.bind ?_ (fun _ => ?_)
theorem phalaroperef05_End.mono : ∀ a0 k, LeO (phalaroperef05_End.f k a0) (phalaroperef05_End.f (k + 1) a0) := by
  intro a0 k
  have ih0 := phalaroperef05_End.mono_l k
  unfold phalaroperef05_End.f
  repeat' first
      | (with_reducible exact ih0 _ _)
      | (with_reducible exact phalaroperef05_May.mono _ _)
      | (with_reducible exact LeO.refl _)
      | (with_reducible exact LeO.none _)
      | (with_reducible refine LeO.ite ?_ ?_)
      | (with_reducible refine LeO.bind ?_ (fun _ => ?_))
      | exact ih0 _ _
      | exact phalaroperef05_May.mono _ _
      | exact LeO.none _
      | refine LeO.ite ?_ ?_
      | refine LeO.bind ?_ (fun _ => ?_)
set_option maxHeartbeats 8000000 in
set_option maxRecDepth 100000 in
theorem phalaroperef05_End.calls (k : Nat) (a0 : ByteArray) (r : Int) (w : World) (h : phalaroperef05_End.f k a0 = some r) :
    Calls Tryd.prog 17 #[.string a0] w fun e w' => e = .returned (.int .i64 r) ∧ Drawn0 w w' := by
  have H : (phalaroperef05_End.l0 k a0 (a0.size : Int)) = some r := h
  clear h
  have H' := Aside0.mk H
  clear H
  go_enter Tryd.func17, Tryd.ntmps17
  go_wp2
  go_loopg [3] k (fun kq v3 w' => ∃ (x3_1 : Int), v3 = .int .i64 x3_1 ∧ Aside0 (phalaroperef05_End.l0 kq a0 x3_1 = some r) ∧ Aside0 (kq ≤ k) ∧ Drawn0 w w')
  case atStart => exact ⟨((a0.size : Int)), (by first | rfl | (simp; done) | (simp [*]; done)), H', ⟨Nat.le_refl _⟩, by repeat (first | exact Drawn0.refl _ | apply Drawn0.step)⟩
  case round =>
    clear H'
    try clear c1
    obtain ⟨x3_1, rfl, HA, HK1, ⟨m1, rfl⟩⟩ := hrel
    cases gk with
    | zero => exact absurd HA.out (by simp [phalaroperef05_End.l0])
    | succ k1 =>
      have H := HA.out
      clear HA
      simp only [phalaroperef05_End.l0] at H
      by_cases c2 : x3_1 > 0
      · rw [if_pos c2] at H
        have c2b0 : decide (0 < x3_1) = true := decide_eq_true c2
        clear c2
        by_cases c3 : 0 ≤ x3_1
        · rw [if_pos c3] at H
          have c3b0 := eq_true c3
          have c3b1 : decide (0 ≤ x3_1) = true := decide_eq_true c3
          clear c3
          by_cases c4 : x3_1 ≤ (a0.size : Int)
          · rw [if_pos c4] at H
            have c4b0 := eq_true c4
            have c4b1 : decide (x3_1 ≤ (a0.size : Int)) = true := decide_eq_true c4
            clear c4
            replace H := Option.bind_eq_some_iff.mp H
            obtain ⟨t155, A50, H⟩ := H
            replace H : (if t155 = true then (some x3_1) else (phalaroperef05_End.l0 k1 a0 (wrap64 (x3_1 - 1)))) = some r := H
            have A5 := Aside0.mk A50
            clear A50
            by_cases c6 : t155 = true
            · subst c6
              have H1 : (some x3_1) = some r := by rw [if_pos rfl] at H; exact H
              clear H
              have H := H1
              clear H1
              obtain rfl := Option.some.inj H
              go_wp2_with (first | ((with_reducible refine gate_callee (f := 15) rfl ?_); refine goesL_ (some 13) rfl rfl Tryd.func15 (by kernel_rfl) rfl #[.string (a0.extract 0 (x3_1 : Int).toNat)] rfl (by (try simp only [List.map_toArray, List.map_cons, List.map_nil]); first | done | rfl | (simp only [List.length_drop, List.length_take]; rfl)) ?_; (with_reducible refine (phalaroperef05_May.calls k1 (a0.extract 0 (x3_1 : Int).toNat) true _ A5.out).mono ?_); rintro e w' ⟨rfl, ⟨nd, rfl⟩⟩; refine ⟨_, rfl, ?_⟩))
              go_ret
              exact ⟨by first | rfl | (simp; done) | (simp [*]; done), by repeat (first | exact Drawn0.refl _ | apply Drawn0.step)⟩
            · replace c6 := Bool.eq_false_iff.mpr c6
              subst c6
              have H1 : (phalaroperef05_End.l0 k1 a0 (wrap64 (x3_1 - 1))) = some r := by rw [if_neg (show ¬ (false = true) by decide)] at H; exact H
              clear H
              have H := H1
              clear H1
              have H' := Aside0.mk H
              clear H
              go_wp2_with (first | ((with_reducible refine gate_callee (f := 15) rfl ?_); refine goesL_ (some 13) rfl rfl Tryd.func15 (by kernel_rfl) rfl #[.string (a0.extract 0 (x3_1 : Int).toNat)] rfl (by (try simp only [List.map_toArray, List.map_cons, List.map_nil]); first | done | rfl | (simp only [List.length_drop, List.length_take]; rfl)) ?_; (with_reducible refine (phalaroperef05_May.calls k1 (a0.extract 0 (x3_1 : Int).toNat) false _ A5.out).mono ?_); rintro e w' ⟨rfl, ⟨nd, rfl⟩⟩; refine ⟨_, rfl, ?_⟩))
              go_roundg k1
              case measure => have := HK1.out; omega
              case rel => exact ⟨(wrap64 (x3_1 - 1)), (by first | rfl | (simp; done) | (simp [*]; done)), H', ⟨by have := HK1.out; omega⟩, by repeat (first | exact Drawn0.refl _ | apply Drawn0.step)⟩
          · rw [if_neg c4] at H
            exact absurd H (by simp)
        · rw [if_neg c3] at H
          exact absurd H (by simp)
      · rw [if_neg c2] at H
        have c2b0 : decide (0 < x3_1) = false := decide_eq_false c2
        clear c2
        obtain rfl := Option.some.inj H
        go_wp2
        go_ret
        exact ⟨by first | rfl | (simp; done) | (simp [*]; done), by repeat (first | exact Drawn0.refl _ | apply Drawn0.step)⟩

/-! ### phalaroperef05_Texts: function 18 -/
def phalaroperef05_Texts.l0 : Nat → List ByteArray → List ByteArray → Int → Option (Bool)
  | 0, _, _, _ => none
  | k + 1, x0, x1, x5 => if x5 < (x0.length : Int) then (if 0 ≤ x5 then (if x5 < (x1.length : Int) then (if (rdOf ByteArray.empty x0 x5).toList = (rdOf ByteArray.empty x1 x5).toList then (phalaroperef05_Texts.l0 k x0 x1 (wrap64 (x5 + 1))) else (some false)) else (none)) else (none)) else (some true)
def phalaroperef05_Texts.f (k : Nat) (l0 : List ByteArray) (l1 : List ByteArray) : Option (Bool) := if (l0.length : Int) = (l1.length : Int) then (phalaroperef05_Texts.l0 k l0 l1 0) else (some false)
theorem phalaroperef05_Texts.mono_l : ∀ k, (∀ y0 y1 y2, LeO (phalaroperef05_Texts.l0 k y0 y1 y2) (phalaroperef05_Texts.l0 (k + 1) y0 y1 y2))
  | 0 => fun _ _ _ r h => by simp [phalaroperef05_Texts.l0] at h
  | k + 1 => by
    have ih0 := phalaroperef05_Texts.mono_l k
    · intro y0 y1 y2
      unfold phalaroperef05_Texts.l0
      repeat' first
      | (with_reducible exact ih0 _ _ _)
      | (with_reducible exact LeO.refl _)
      | (with_reducible exact LeO.none _)
      | (with_reducible refine LeO.ite ?_ ?_)
      | (with_reducible refine LeO.bind ?_ (fun _ => ?_))
      | exact ih0 _ _ _
      | exact LeO.none _
      | refine LeO.ite ?_ ?_
      | refine LeO.bind ?_ (fun _ => ?_)
theorem phalaroperef05_Texts.mono : ∀ a0 a1 k, LeO (phalaroperef05_Texts.f k a0 a1) (phalaroperef05_Texts.f (k + 1) a0 a1) := by
  intro a0 a1 k
  have ih0 := phalaroperef05_Texts.mono_l k
  unfold phalaroperef05_Texts.f
  repeat' first
      | (with_reducible exact ih0 _ _ _)
      | (with_reducible exact LeO.refl _)
      | (with_reducible exact LeO.none _)
      | (with_reducible refine LeO.ite ?_ ?_)
      | (with_reducible refine LeO.bind ?_ (fun _ => ?_))
      | exact ih0 _ _ _
      | exact LeO.none _
      | refine LeO.ite ?_ ?_
      | refine LeO.bind ?_ (fun _ => ?_)
set_option maxHeartbeats 8000000 in
set_option maxRecDepth 100000 in
theorem phalaroperef05_Texts.calls (k : Nat) (A0 : Option Addr) (c0 : Nat) (l0 : List ByteArray) (A1 : Option Addr) (c1 : Nat) (l1 : List ByteArray) (r : Bool) (w : World) (hr0 : Kd.C Kd.string w A0 l0.length l0) (hc0 : l0.length ≤ c0) (hr1 : Kd.C Kd.string w A1 l1.length l1) (hc1 : l1.length ≤ c1) (h : phalaroperef05_Texts.f k l0 l1 = some r) :
    Calls Tryd.prog 18 #[.slice A0 l0.length c0, .slice A1 l1.length c1] w fun e w' => e = .returned (.bool r) ∧ Drawn0 w w' := by
  have HR0 := Aside0.mk hr0
  have HC0 := Aside0.mk hc0
  clear hr0 hc0
  have HR1 := Aside0.mk hr1
  have HC1 := Aside0.mk hc1
  clear hr1 hc1
  have H : (if (l0.length : Int) = (l1.length : Int) then (phalaroperef05_Texts.l0 k l0 l1 0) else (some false)) = some r := h
  clear h
  by_cases c3 : (l0.length : Int) = (l1.length : Int)
  · rw [if_pos c3] at H
    have c3b0 : ((l0.length : Int) == (l1.length : Int)) = true := beq_iff_eq.mpr c3
    have c3b1 : ((l0.length : Int) != (l1.length : Int)) = false := bne_eq_false_iff_eq.mpr c3
    have c3b2 : (l0.length == l1.length) = true := by first | simpa using c3 | (simp at c3 ⊢; omega)
    clear c3
    have H' := Aside0.mk H
    clear H
    go_enter Tryd.func18, Tryd.ntmps18
    go_wp2
    repeat (go_quiet (fail); try go_wp2)
    go_loopg [5] k (fun kq v5 w' => ∃ (x5_1 : Int), v5 = .int .i64 x5_1 ∧ Aside0 (phalaroperef05_Texts.l0 kq l0 l1 x5_1 = some r) ∧ Aside0 (kq ≤ k) ∧ Drawn0 w w')
    case atStart => exact ⟨(0), (by first | rfl | (simp; done) | (simp [*]; done)), H', ⟨Nat.le_refl _⟩, by repeat (first | exact Drawn0.refl _ | apply Drawn0.step)⟩
    case round =>
      clear H'
      try clear c1
      try clear p2
      try clear c3
      try clear c3b0
      try clear c3b1
      try clear c3b2
      obtain ⟨x5_1, rfl, HA, HK1, ⟨m1, rfl⟩⟩ := hrel
      cases gk with
      | zero => exact absurd HA.out (by simp [phalaroperef05_Texts.l0])
      | succ k1 =>
        have H := HA.out
        clear HA
        simp only [phalaroperef05_Texts.l0] at H
        by_cases c4 : x5_1 < (l0.length : Int)
        · rw [if_pos c4] at H
          have c4b0 : decide (x5_1 < (l0.length : Int)) = true := decide_eq_true c4
          clear c4
          by_cases c5 : 0 ≤ x5_1
          · rw [if_pos c5] at H
            have c5b0 : decide (0 ≤ x5_1) = true := decide_eq_true c5
            clear c5
            by_cases c6 : x5_1 < (l1.length : Int)
            · rw [if_pos c6] at H
              have c6b0 : decide (x5_1 < (l1.length : Int)) = true := decide_eq_true c6
              clear c6
              by_cases c7 : (rdOf ByteArray.empty l0 x5_1).toList = (rdOf ByteArray.empty l1 x5_1).toList
              · rw [if_pos c7] at H
                have c7b0 : ((rdOf ByteArray.empty l0 x5_1).toList == (rdOf ByteArray.empty l1 x5_1).toList) = true := beq_iff_eq.mpr c7
                have c7b1 : ((rdOf ByteArray.empty l0 x5_1).toList != (rdOf ByteArray.empty l1 x5_1).toList) = false := bne_eq_false_iff_eq.mpr c7
                clear c7
                have H' := Aside0.mk H
                clear H
                have p156 : 0 ≤ (x5_1 : Int) := of_decide_eq_true (by first | (with_reducible assumption) | assumption)
                have q156 : x5_1 < (l0.length : Int) := of_decide_eq_true (by first | (with_reducible assumption) | assumption)
                obtain ⟨ad156, e156, hx156_0⟩ := Kd.at_string HR0.out x5_1 p156 q156
                cases e156
                replace p156 := eq_true p156
                replace q156 := eq_true q156
                have p157 : 0 ≤ (x5_1 : Int) := of_decide_eq_true (by first | (with_reducible assumption) | assumption)
                have q157 : x5_1 < (l1.length : Int) := of_decide_eq_true (by first | (with_reducible assumption) | assumption)
                obtain ⟨ad157, e157, hx157_0⟩ := Kd.at_string HR1.out x5_1 p157 q157
                cases e157
                replace p157 := eq_true p157
                replace q157 := eq_true q157
                go_wp2
                repeat (go_quiet (fail); try go_wp2)
                go_roundg k1
                case measure => have := HK1.out; omega
                case rel => exact ⟨(wrap64 (x5_1 + 1)), (by first | rfl | (simp; done) | (simp [*]; done)), H', ⟨by have := HK1.out; omega⟩, by repeat (first | exact Drawn0.refl _ | apply Drawn0.step)⟩
              · rw [if_neg c7] at H
                have c7b0 : ((rdOf ByteArray.empty l0 x5_1).toList == (rdOf ByteArray.empty l1 x5_1).toList) = false := beq_eq_false_iff_ne.mpr c7
                have c7b1 : ((rdOf ByteArray.empty l0 x5_1).toList != (rdOf ByteArray.empty l1 x5_1).toList) = true := bne_iff_ne.mpr c7
                obtain rfl := Option.some.inj H
                have p156 : 0 ≤ (x5_1 : Int) := of_decide_eq_true (by first | (with_reducible assumption) | assumption)
                have q156 : x5_1 < (l0.length : Int) := of_decide_eq_true (by first | (with_reducible assumption) | assumption)
                obtain ⟨ad156, e156, hx156_0⟩ := Kd.at_string HR0.out x5_1 p156 q156
                cases e156
                replace p156 := eq_true p156
                replace q156 := eq_true q156
                have p157 : 0 ≤ (x5_1 : Int) := of_decide_eq_true (by first | (with_reducible assumption) | assumption)
                have q157 : x5_1 < (l1.length : Int) := of_decide_eq_true (by first | (with_reducible assumption) | assumption)
                obtain ⟨ad157, e157, hx157_0⟩ := Kd.at_string HR1.out x5_1 p157 q157
                cases e157
                replace p157 := eq_true p157
                replace q157 := eq_true q157
                go_wp2
                repeat (go_quiet (fail); try go_wp2)
                go_ret
                exact ⟨by first | rfl | (simp; done) | (simp [*]; done), by repeat (first | exact Drawn0.refl _ | apply Drawn0.step)⟩
            · rw [if_neg c6] at H
              exact absurd H (by simp)
          · rw [if_neg c5] at H
            exact absurd H (by simp)
        · rw [if_neg c4] at H
          have c4b0 : decide (x5_1 < (l0.length : Int)) = false := decide_eq_false c4
          clear c4
          obtain rfl := Option.some.inj H
          go_wp2
          repeat (go_quiet (fail); try go_wp2)
          go_ret
          exact ⟨by first | rfl | (simp; done) | (simp [*]; done), by repeat (first | exact Drawn0.refl _ | apply Drawn0.step)⟩
  · rw [if_neg c3] at H
    have c3b0 : ((l0.length : Int) == (l1.length : Int)) = false := beq_eq_false_iff_ne.mpr c3
    have c3b1 : ((l0.length : Int) != (l1.length : Int)) = true := bne_iff_ne.mpr c3
    have c3b2 : (l0.length == l1.length) = false := by first | simpa using c3 | (simp at c3 ⊢; omega)
    obtain rfl := Option.some.inj H
    go_enter Tryd.func18, Tryd.ntmps18
    go_wp2
    repeat (go_quiet (fail); try go_wp2)
    go_ret
    exact ⟨by first | rfl | (simp; done) | (simp [*]; done), by repeat (first | exact Drawn0.refl _ | apply Drawn0.step)⟩

end Go.Proofs.YtmondgamackcgaaDoor.PVn
