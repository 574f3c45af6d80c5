-- PRINTED by print.py (a twelfth state) out of the translation. Not trusted: Lean checks it.
import Derived.Test.YtmondgamackcgaaPPctx0
import Derived.Test.YtmondgamackcgaaPPctx1
import Derived.Test.YtmondgamackcgaaPPctx2
namespace Go.Proofs.Ytmondgamackcgaa.PPct
open Go.RowKit Go.Proofs.YtmondgamackcgaaW.PrintWords Go.Proofs.YtmondgamackcgaaW.PrintLast Go.Proofs.YtmondgamackcgaaW.PrintMore
attribute [local go_sem] max2_int min2_int max_two min_two max_three min_three max_four min_four   -- for this text's walks alone
set_option linter.unusedVariables false
set_option linter.unusedSimpArgs false

/-! ### phalaroperef03_Encode: function 51 -/
mutual
def phalaroperef03_Encode.l0 : Nat → ByteArray → Bool → ByteArray → Option (ByteArray)
  | 0, _, _, _ => none
  | k + 1, x0, x1, x5 => if x0.toList = ([] : List UInt8) then (some x5) else (if 0 < (x0.size : Int) then ((phalaroperef03_One.f (bt x0 0)).bind fun t135 => ((phalaroperef02_Unreserved.f k (bt x0 0)).bind fun t136 => (if t136 = true then (phalaroperef03_Encode.j1 k x0 x1 x5 1 t135 true) else (if x1 = true then ((phalaroperef02_Reserved.f k (bt x0 0)).bind fun t137 => (phalaroperef03_Encode.j1 k x0 x1 x5 1 t135 t137)) else (phalaroperef03_Encode.j1 k x0 x1 x5 1 t135 false))))) else (none))
def phalaroperef03_Encode.j1 : Nat → ByteArray → Bool → ByteArray → Int → ByteArray → Bool → Option (ByteArray)
  | 0, _, _, _, _, _, _ => none
  | k + 1, x0, x1, x5, x6, x7, x23 => if x23 = true then (if 0 ≤ 1 then (if 1 ≤ (x0.size : Int) then (if x1 = true then ((phalaroperef03_Triplet.f x0).bind fun t138 => (if t138 = true then (if 0 ≤ 3 then (if 3 ≤ (x0.size : Int) then (if x5.size + (x0.extract 0 3).size ≤ 9223372036854775807 then (phalaroperef03_Encode.l0 k (x0.extract 3 x0.size) x1 (x5 ++ (x0.extract 0 3))) else (none)) else (none)) else (none)) else (if x5.size + (x0.extract 0 1).size ≤ 9223372036854775807 then (if 0 ≤ x6 then (if x6 ≤ (x0.size : Int) then (phalaroperef03_Encode.l0 k (x0.extract (x6 : Int).toNat x0.size) x1 (x5 ++ (x0.extract 0 1))) else (none)) else (none)) else (none)))) else (if x5.size + (x0.extract 0 1).size ≤ 9223372036854775807 then (if 0 ≤ x6 then (if x6 ≤ (x0.size : Int) then (phalaroperef03_Encode.l0 k (x0.extract (x6 : Int).toNat x0.size) x1 (x5 ++ (x0.extract 0 1))) else (none)) else (none)) else (none))) else (none)) else (none)) else (if x1 = true then ((phalaroperef03_Triplet.f x0).bind fun t139 => (if t139 = true then (if 0 ≤ 3 then (if 3 ≤ (x0.size : Int) then (if x5.size + (x0.extract 0 3).size ≤ 9223372036854775807 then (phalaroperef03_Encode.l0 k (x0.extract 3 x0.size) x1 (x5 ++ (x0.extract 0 3))) else (none)) else (none)) else (none)) else (if x5.size + x7.size ≤ 9223372036854775807 then (if 0 ≤ x6 then (if x6 ≤ (x0.size : Int) then (phalaroperef03_Encode.l0 k (x0.extract (x6 : Int).toNat x0.size) x1 (x5 ++ x7)) else (none)) else (none)) else (none)))) else (if x5.size + x7.size ≤ 9223372036854775807 then (if 0 ≤ x6 then (if x6 ≤ (x0.size : Int) then (phalaroperef03_Encode.l0 k (x0.extract (x6 : Int).toNat x0.size) x1 (x5 ++ x7)) else (none)) else (none)) else (none)))
end
def phalaroperef03_Encode.f (k : Nat) (a0 : ByteArray) (a1 : Bool) : Option (ByteArray) := phalaroperef03_Encode.l0 k a0 a1 (⟨#[]⟩ : ByteArray)
theorem phalaroperef03_Encode.mono_l : ∀ k, (∀ y0 y1 y2, LeO (phalaroperef03_Encode.l0 k y0 y1 y2) (phalaroperef03_Encode.l0 (k + 1) y0 y1 y2)) ∧ (∀ y0 y1 y2 y3 y4 y5, LeO (phalaroperef03_Encode.j1 k y0 y1 y2 y3 y4 y5) (phalaroperef03_Encode.j1 (k + 1) y0 y1 y2 y3 y4 y5))
  | 0 => ⟨fun _ _ _ r h => by simp [phalaroperef03_Encode.l0] at h, fun _ _ _ _ _ _ r h => by simp [phalaroperef03_Encode.j1] at h⟩
  | k + 1 => by
    obtain ⟨ih0, ih1⟩ := phalaroperef03_Encode.mono_l k
    refine ⟨?_, ?_⟩
    · intro y0 y1 y2
      unfold phalaroperef03_Encode.l0
      repeat' first
      | (with_reducible exact ih0 _ _ _)
      | (with_reducible exact ih1 _ _ _ _ _ _)
      | (with_reducible exact phalaroperef02_Reserved.mono _ _)
      | (with_reducible exact phalaroperef02_Unreserved.mono _ _)
      | (with_reducible exact LeO.refl _)
      | (with_reducible exact LeO.none _)
      | (with_reducible refine LeO.ite ?_ ?_)
      | (with_reducible refine LeO.bind ?_ (fun _ => ?_))
      | exact ih0 _ _ _
      | exact ih1 _ _ _ _ _ _
      | exact phalaroperef02_Reserved.mono _ _
      | exact phalaroperef02_Unreserved.mono _ _
      | exact LeO.none _
      | refine LeO.ite ?_ ?_
      | refine LeO.bind ?_ (fun _ => ?_)
    · intro y0 y1 y2 y3 y4 y5
      unfold phalaroperef03_Encode.j1
      repeat' first
      | (with_reducible exact ih0 _ _ _)
      | (with_reducible exact ih1 _ _ _ _ _ _)
      | (with_reducible exact phalaroperef02_Reserved.mono _ _)
      | (with_reducible exact phalaroperef02_Unreserved.mono _ _)
      | (with_reducible exact LeO.refl _)
      | (with_reducible exact LeO.none _)
      | (with_reducible refine LeO.ite ?_ ?_)
      | (with_reducible refine LeO.bind ?_ (fun _ => ?_))
      | exact ih0 _ _ _
      | exact ih1 _ _ _ _ _ _
      | exact phalaroperef02_Reserved.mono _ _
      | exact phalaroperef02_Unreserved.mono _ _
      | exact LeO.none _
      | refine LeO.ite ?_ ?_
      | refine LeO.bind ?_ (fun _ => ?_)
theorem phalaroperef03_Encode.mono : ∀ a0 a1 k, LeO (phalaroperef03_Encode.f k a0 a1) (phalaroperef03_Encode.f (k + 1) a0 a1) := by
  intro a0 a1 k
  obtain ⟨ih0, ih1⟩ := phalaroperef03_Encode.mono_l k
  unfold phalaroperef03_Encode.f
  repeat' first
      | (with_reducible exact ih0 _ _ _)
      | (with_reducible exact ih1 _ _ _ _ _ _)
      | (with_reducible exact phalaroperef02_Reserved.mono _ _)
      | (with_reducible exact phalaroperef02_Unreserved.mono _ _)
      | (with_reducible exact LeO.refl _)
      | (with_reducible exact LeO.none _)
      | (with_reducible refine LeO.ite ?_ ?_)
      | (with_reducible refine LeO.bind ?_ (fun _ => ?_))
      | exact ih0 _ _ _
      | exact ih1 _ _ _ _ _ _
      | exact phalaroperef02_Reserved.mono _ _
      | exact phalaroperef02_Unreserved.mono _ _
      | exact LeO.none _
      | refine LeO.ite ?_ ?_
      | refine LeO.bind ?_ (fun _ => ?_)
set_option maxHeartbeats 8000000 in
set_option maxRecDepth 100000 in
theorem phalaroperef03_Encode.calls (k : Nat) (a0 : ByteArray) (a1 : Bool) (r : ByteArray) (w : World) (h : phalaroperef03_Encode.f k a0 a1 = some r) :
    Calls Try.prog 51 #[.string a0, .bool a1] w fun e w' => e = .returned (.string r) ∧ Below w.heap.size w w' := by
  have HB := Aside0.mk (Below.refl w.heap.size w)
  have H : (phalaroperef03_Encode.l0 k a0 a1 (⟨#[]⟩ : ByteArray)) = some r := h
  clear h
  have H' := Aside0.mk H
  clear H
  go_enter Try.func51, Try.ntmps51
  go_wp2
  go_loopg [0, 5] k (fun kq v0 v5 w' => ∃ (x0_1 : ByteArray) (x5_1 : ByteArray), v0 = .string x0_1 ∧ v5 = .string x5_1 ∧ Aside0 (phalaroperef03_Encode.l0 kq x0_1 a1 x5_1 = some r) ∧ Aside0 (kq ≤ k) ∧ Aside0 (Below w.heap.size w w'))
  case atStart => exact ⟨(a0), ((⟨#[]⟩ : ByteArray)), (by first | rfl | (simp; done) | (simp [*]; done)), (by first | rfl | (simp; done) | (simp [*]; done)), H', ⟨Nat.le_refl _⟩, ⟨by repeat (first | (with_reducible first | exact HB.out | apply below_alloc | apply pw_below_drewN | apply below_drew1) | exact HB.out)⟩⟩
  case round =>
    clear H'
    try clear p2
    obtain ⟨x0_1, x5_1, rfl, rfl, HA, HK1, HB⟩ := hrel
    cases gk with
    | zero => exact absurd HA.out (by simp [phalaroperef03_Encode.l0])
    | succ k1 =>
      have H := HA.out
      clear HA
      simp only [phalaroperef03_Encode.l0] at H
      by_cases c3 : x0_1.toList = ([] : List UInt8)
      · rw [if_pos c3] at H
        have c3b0 : (x0_1.toList == ([] : List UInt8)) = true := beq_iff_eq.mpr c3
        have c3b1 : (x0_1.toList != ([] : List UInt8)) = false := bne_eq_false_iff_eq.mpr c3
        clear c3
        obtain rfl := Option.some.inj H
        go_wp2
        go_ret
        exact ⟨by first | rfl | (simp [errW_none, errW_some] <;> rfl) | (simp [*, errW_none, errW_some] <;> rfl), by repeat (first | (with_reducible first | exact HB.out | apply below_alloc | apply pw_below_drewN | apply below_drew1) | exact HB.out)⟩
      · rw [if_neg c3] at H
        have c3b0 : (x0_1.toList == ([] : List UInt8)) = false := beq_eq_false_iff_ne.mpr c3
        have c3b1 : (x0_1.toList != ([] : List UInt8)) = true := bne_iff_ne.mpr c3
        by_cases c4 : 0 < (x0_1.size : Int)
        · rw [if_pos c4] at H
          have c4b0 : decide (0 < (x0_1.size : Int)) = true := decide_eq_true c4
          have c4b1 : decide (0 < x0_1.size) = true := decide_eq_true (by omega)
          clear c4
          replace H := Option.bind_eq_some_iff.mp H
          obtain ⟨t135, A60, H⟩ := H
          replace H : ((phalaroperef02_Unreserved.f k1 (bt x0_1 0)).bind fun t136 => (if t136 = true then (phalaroperef03_Encode.j1 k1 x0_1 a1 x5_1 1 t135 true) else (if a1 = true then ((phalaroperef02_Reserved.f k1 (bt x0_1 0)).bind fun t137 => (phalaroperef03_Encode.j1 k1 x0_1 a1 x5_1 1 t135 t137)) else (phalaroperef03_Encode.j1 k1 x0_1 a1 x5_1 1 t135 false)))) = some r := H
          have A6 := Aside0.mk A60
          clear A60
          have HC7 := Aside0.mk H
          clear H
          have p5 : 0 ≤ (0 : Int) := (by omega)
          have q5 : 0 < x0_1.size := (by have : (0 : Int) < (x0_1.size : Int) := of_decide_eq_true (by first | (with_reducible assumption) | assumption); omega)
          have hx5 : ∀ h : 0 < x0_1.size, ((x0_1[0]'h).toNat : Int) = bt x0_1 0 := bt_at x0_1 0
          clear p5
          have qi5 : (0 < (x0_1.size : Int)) = True := eq_true (of_decide_eq_true (by first | (with_reducible assumption) | assumption))
          replace q5 := eq_true q5
          go_upto_region 5 with (first | ((with_reducible refine gate_callee (f := 45) rfl ?_); refine goesL_ (some 12) rfl rfl Try.func45 (by kernel_rfl) rfl #[.int .u8 (bt x0_1 0)] rfl (by (try simp only [List.map_toArray, List.map_cons, List.map_nil]); first | done | rfl | (simp only [List.length_drop, List.length_take]; rfl)) ?_; (with_reducible refine (phalaroperef03_One.calls (bt x0_1 0) t135 _ A6.out).mono ?_); rintro e w8 ⟨rfl, hb⟩; refine ⟨_, rfl, ?_⟩; have n0_ := Aside0.mk (below_step (by repeat (first | (with_reducible first | exact HB.out | apply below_alloc | apply pw_below_drewN | apply below_drew1) | exact HB.out)) hb); clear HB; have HB := n0_; clear n0_; (try clear hb); (try clear hb2); (try clear hk); (try clear hi)))
          (try simp only [Act.put, List.setIfInBounds_toArray, List.set_cons_zero, List.set_cons_succ])
          go_cut [23] (fun v23 wc => ∃ (kq : Nat) (x23_6 : Bool), v23 = .bool x23_6 ∧ Aside0 (phalaroperef03_Encode.j1 kq x0_1 a1 x5_1 1 t135 x23_6 = some r) ∧ Aside0 (kq ≤ k1) ∧ Aside0 (Below w.heap.size w wc))
          case first =>
            have H := HC7.out
            clear HC7
            replace H := Option.bind_eq_some_iff.mp H
            obtain ⟨t136, A100, H⟩ := H
            replace H : (if t136 = true then (phalaroperef03_Encode.j1 k1 x0_1 a1 x5_1 1 t135 true) else (if a1 = true then ((phalaroperef02_Reserved.f k1 (bt x0_1 0)).bind fun t137 => (phalaroperef03_Encode.j1 k1 x0_1 a1 x5_1 1 t135 t137)) else (phalaroperef03_Encode.j1 k1 x0_1 a1 x5_1 1 t135 false))) = some r := H
            have A10 := Aside0.mk A100
            clear A100
            by_cases c11 : t136 = true
            · subst c11
              have H1 : (phalaroperef03_Encode.j1 k1 x0_1 a1 x5_1 1 t135 true) = some r := by rw [if_pos rfl] at H; exact H
              clear H
              have H := H1
              clear H1
              have H' := Aside0.mk H
              clear H
              have p9 : 0 ≤ (0 : Int) := (by omega)
              have q9 : 0 < x0_1.size := (by have : (0 : Int) < (x0_1.size : Int) := of_decide_eq_true (by first | (with_reducible assumption) | assumption); omega)
              have hx9 : ∀ h : 0 < x0_1.size, ((x0_1[0]'h).toNat : Int) = bt x0_1 0 := bt_at x0_1 0
              clear p9
              have qi9 : (0 < (x0_1.size : Int)) = True := eq_true (of_decide_eq_true (by first | (with_reducible assumption) | assumption))
              replace q9 := eq_true q9
              go_wp2_with (first | ((with_reducible refine gate_callee (f := 36) rfl ?_); refine goesL_ (some 15) rfl rfl Try.func36 (by kernel_rfl) rfl #[.int .u8 (bt x0_1 0)] rfl (by (try simp only [List.map_toArray, List.map_cons, List.map_nil]); first | done | rfl | (simp only [List.length_drop, List.length_take]; rfl)) ?_; (with_reducible refine (phalaroperef02_Unreserved.calls k1 (bt x0_1 0) true _ A10.out).mono ?_); rintro e w' ⟨rfl, ⟨nd, rfl⟩⟩; refine ⟨_, rfl, ?_⟩))
              go_meet
              case rel => exact ⟨_, (true), (by first | rfl | (simp; done) | (simp [*]; done)), H', ⟨by have := HK1.out; first | omega | exact Nat.le_refl _⟩, ⟨by repeat (first | (with_reducible first | exact HB.out | apply below_alloc | apply pw_below_drewN | apply below_drew1) | exact HB.out)⟩⟩
            · replace c11 := Bool.eq_false_iff.mpr c11
              subst c11
              have H1 : (if a1 = true then ((phalaroperef02_Reserved.f k1 (bt x0_1 0)).bind fun t137 => (phalaroperef03_Encode.j1 k1 x0_1 a1 x5_1 1 t135 t137)) else (phalaroperef03_Encode.j1 k1 x0_1 a1 x5_1 1 t135 false)) = some r := by rw [if_neg (show ¬ (false = true) by decide)] at H; exact H
              clear H
              have H := H1
              clear H1
              by_cases c12 : a1 = true
              · subst c12
                have H1 : ((phalaroperef02_Reserved.f k1 (bt x0_1 0)).bind fun t137 => (phalaroperef03_Encode.j1 k1 x0_1 true x5_1 1 t135 t137)) = some r := by rw [if_pos rfl] at H; exact H
                clear H
                have H := H1
                clear H1
                replace H := Option.bind_eq_some_iff.mp H
                obtain ⟨t137, A140, H⟩ := H
                replace H : (phalaroperef03_Encode.j1 k1 x0_1 true x5_1 1 t135 t137) = some r := H
                have A14 := Aside0.mk A140
                clear A140
                have H' := Aside0.mk H
                clear H
                have p9 : 0 ≤ (0 : Int) := (by omega)
                have q9 : 0 < x0_1.size := (by have : (0 : Int) < (x0_1.size : Int) := of_decide_eq_true (by first | (with_reducible assumption) | assumption); omega)
                have hx9 : ∀ h : 0 < x0_1.size, ((x0_1[0]'h).toNat : Int) = bt x0_1 0 := bt_at x0_1 0
                clear p9
                have qi9 : (0 < (x0_1.size : Int)) = True := eq_true (of_decide_eq_true (by first | (with_reducible assumption) | assumption))
                replace q9 := eq_true q9
                go_wp2_with (first | ((with_reducible refine gate_callee (f := 36) rfl ?_); refine goesL_ (some 15) rfl rfl Try.func36 (by kernel_rfl) rfl #[.int .u8 (bt x0_1 0)] rfl (by (try simp only [List.map_toArray, List.map_cons, List.map_nil]); first | done | rfl | (simp only [List.length_drop, List.length_take]; rfl)) ?_; (with_reducible refine (phalaroperef02_Unreserved.calls k1 (bt x0_1 0) false _ A10.out).mono ?_); rintro e w' ⟨rfl, ⟨nd, rfl⟩⟩; refine ⟨_, rfl, ?_⟩; have p13 : 0 ≤ (0 : Int) := (by omega); have q13 : 0 < x0_1.size := (by have : (0 : Int) < (x0_1.size : Int) := of_decide_eq_true (by first | (with_reducible assumption) | assumption); omega); have hx13 : ∀ h : 0 < x0_1.size, ((x0_1[0]'h).toNat : Int) = bt x0_1 0 := bt_at x0_1 0; clear p13; have qi13 : (0 < (x0_1.size : Int)) = True := eq_true (of_decide_eq_true (by first | (with_reducible assumption) | assumption)); replace q13 := eq_true q13) | (go_at_call 38; (with_reducible refine (phalaroperef02_Reserved.calls k1 (bt x0_1 0) t137 _ A14.out).mono ?_); rintro e w' ⟨rfl, ⟨nd, rfl⟩⟩))
                go_meet
                case rel => exact ⟨_, (t137), (by first | rfl | (simp; done) | (simp [*]; done)), H', ⟨by have := HK1.out; first | omega | exact Nat.le_refl _⟩, ⟨by repeat (first | (with_reducible first | exact HB.out | apply below_alloc | apply pw_below_drewN | apply below_drew1) | exact HB.out)⟩⟩
              · replace c12 := Bool.eq_false_iff.mpr c12
                subst c12
                have H1 : (phalaroperef03_Encode.j1 k1 x0_1 false x5_1 1 t135 false) = some r := by rw [if_neg (show ¬ (false = true) by decide)] at H; exact H
                clear H
                have H := H1
                clear H1
                have H' := Aside0.mk H
                clear H
                have p9 : 0 ≤ (0 : Int) := (by omega)
                have q9 : 0 < x0_1.size := (by have : (0 : Int) < (x0_1.size : Int) := of_decide_eq_true (by first | (with_reducible assumption) | assumption); omega)
                have hx9 : ∀ h : 0 < x0_1.size, ((x0_1[0]'h).toNat : Int) = bt x0_1 0 := bt_at x0_1 0
                clear p9
                have qi9 : (0 < (x0_1.size : Int)) = True := eq_true (of_decide_eq_true (by first | (with_reducible assumption) | assumption))
                replace q9 := eq_true q9
                go_wp2_with (first | ((with_reducible refine gate_callee (f := 36) rfl ?_); refine goesL_ (some 15) rfl rfl Try.func36 (by kernel_rfl) rfl #[.int .u8 (bt x0_1 0)] rfl (by (try simp only [List.map_toArray, List.map_cons, List.map_nil]); first | done | rfl | (simp only [List.length_drop, List.length_take]; rfl)) ?_; (with_reducible refine (phalaroperef02_Unreserved.calls k1 (bt x0_1 0) false _ A10.out).mono ?_); rintro e w' ⟨rfl, ⟨nd, rfl⟩⟩; refine ⟨_, rfl, ?_⟩))
                go_meet
                case rel => exact ⟨_, (false), (by first | rfl | (simp; done) | (simp [*]; done)), H', ⟨by have := HK1.out; first | omega | exact Nat.le_refl _⟩, ⟨by repeat (first | (with_reducible first | exact HB.out | apply below_alloc | apply pw_below_drewN | apply below_drew1) | exact HB.out)⟩⟩
          case rest =>
            clear HC7
            try clear c1
            try clear p1
            try clear q1
            try clear hx1
            try clear qi1
            try clear p2
            try clear c3
            try clear c3b0
            try clear c3b1
            try clear c4
            try clear c4b0
            try clear c4b1
            try clear c5
            try clear p5
            try clear q5
            try clear hx5
            try clear qi5
            try clear p9
            try clear q9
            try clear hx9
            try clear qi9
            try clear c11
            try clear c12
            try clear p13
            try clear q13
            try clear hx13
            try clear qi13
            try clear p13
            try clear p2
            try clear p5
            try clear p9
            try clear q13
            try clear q5
            try clear q9
            obtain ⟨kq, x23_6, rfl, HA, HJ6, HB⟩ := hcut
            cases kq with
            | zero => exact absurd HA.out (by simp [phalaroperef03_Encode.j1])
            | succ kj6 =>
              have H := HA.out
              clear HA
              simp only [phalaroperef03_Encode.j1] at H
              by_cases c15 : x23_6 = true
              · subst c15
                have H1 : (if 0 ≤ 1 then (if 1 ≤ (x0_1.size : Int) then (if a1 = true then ((phalaroperef03_Triplet.f x0_1).bind fun t138 => (if t138 = true then (if 0 ≤ 3 then (if 3 ≤ (x0_1.size : Int) then (if x5_1.size + (x0_1.extract 0 3).size ≤ 9223372036854775807 then (phalaroperef03_Encode.l0 kj6 (x0_1.extract 3 x0_1.size) a1 (x5_1 ++ (x0_1.extract 0 3))) else (none)) else (none)) else (none)) else (if x5_1.size + (x0_1.extract 0 1).size ≤ 9223372036854775807 then (if 0 ≤ 1 then (if 1 ≤ (x0_1.size : Int) then (phalaroperef03_Encode.l0 kj6 (x0_1.extract (1 : Int).toNat x0_1.size) a1 (x5_1 ++ (x0_1.extract 0 1))) else (none)) else (none)) else (none)))) else (if x5_1.size + (x0_1.extract 0 1).size ≤ 9223372036854775807 then (if 0 ≤ 1 then (if 1 ≤ (x0_1.size : Int) then (phalaroperef03_Encode.l0 kj6 (x0_1.extract (1 : Int).toNat x0_1.size) a1 (x5_1 ++ (x0_1.extract 0 1))) else (none)) else (none)) else (none))) else (none)) else (none)) = some r := by rw [if_pos rfl] at H; exact H
                clear H
                have H := H1
                clear H1
                by_cases c16 : 0 ≤ 1
                · rw [if_pos c16] at H
                  have c16b0 := eq_true c16
                  have c16b1 : decide (0 ≤ 1) = true := decide_eq_true c16
                  clear c16
                  by_cases c17 : 1 ≤ (x0_1.size : Int)
                  · rw [if_pos c17] at H
                    have c17b0 := eq_true c17
                    have c17b1 : decide (1 ≤ (x0_1.size : Int)) = true := decide_eq_true c17
                    clear c17
                    by_cases c18 : a1 = true
                    · subst c18
                      have H1 : ((phalaroperef03_Triplet.f x0_1).bind fun t138 => (if t138 = true then (if 0 ≤ 3 then (if 3 ≤ (x0_1.size : Int) then (if x5_1.size + (x0_1.extract 0 3).size ≤ 9223372036854775807 then (phalaroperef03_Encode.l0 kj6 (x0_1.extract 3 x0_1.size) true (x5_1 ++ (x0_1.extract 0 3))) else (none)) else (none)) else (none)) else (if x5_1.size + (x0_1.extract 0 1).size ≤ 9223372036854775807 then (if 0 ≤ 1 then (if 1 ≤ (x0_1.size : Int) then (phalaroperef03_Encode.l0 kj6 (x0_1.extract (1 : Int).toNat x0_1.size) true (x5_1 ++ (x0_1.extract 0 1))) else (none)) else (none)) else (none)))) = some r := by rw [if_pos rfl] at H; exact H
                      clear H
                      have H := H1
                      clear H1
                      replace H := Option.bind_eq_some_iff.mp H
                      obtain ⟨t138, A190, H⟩ := H
                      replace H : (if t138 = true then (if 0 ≤ 3 then (if 3 ≤ (x0_1.size : Int) then (if x5_1.size + (x0_1.extract 0 3).size ≤ 9223372036854775807 then (phalaroperef03_Encode.l0 kj6 (x0_1.extract 3 x0_1.size) true (x5_1 ++ (x0_1.extract 0 3))) else (none)) else (none)) else (none)) else (if x5_1.size + (x0_1.extract 0 1).size ≤ 9223372036854775807 then (if 0 ≤ 1 then (if 1 ≤ (x0_1.size : Int) then (phalaroperef03_Encode.l0 kj6 (x0_1.extract (1 : Int).toNat x0_1.size) true (x5_1 ++ (x0_1.extract 0 1))) else (none)) else (none)) else (none))) = some r := H
                      have A19 := Aside0.mk A190
                      clear A190
                      by_cases c20 : t138 = true
                      · subst c20
                        have H1 : (if 0 ≤ 3 then (if 3 ≤ (x0_1.size : Int) then (if x5_1.size + (x0_1.extract 0 3).size ≤ 9223372036854775807 then (phalaroperef03_Encode.l0 kj6 (x0_1.extract 3 x0_1.size) true (x5_1 ++ (x0_1.extract 0 3))) else (none)) else (none)) else (none)) = some r := by rw [if_pos rfl] at H; exact H
                        clear H
                        have H := H1
                        clear H1
                        by_cases c21 : 0 ≤ 3
                        · rw [if_pos c21] at H
                          have c21b0 := eq_true c21
                          have c21b1 : decide (0 ≤ 3) = true := decide_eq_true c21
                          clear c21
                          by_cases c22 : 3 ≤ (x0_1.size : Int)
                          · rw [if_pos c22] at H
                            have c22b0 := eq_true c22
                            have c22b1 : decide (3 ≤ (x0_1.size : Int)) = true := decide_eq_true c22
                            clear c22
                            by_cases c23 : x5_1.size + (x0_1.extract 0 3).size ≤ 9223372036854775807
                            · rw [if_pos c23] at H
                              have c23b0 := eq_true c23
                              have c23b1 : decide (x5_1.size + (x0_1.extract 0 3).size ≤ 9223372036854775807) = true := decide_eq_true c23
                              try have c23b2 : (9223372036854775807 < x5_1.size + (x0_1.extract 0 3).size) = False := eq_false (Nat.not_lt.2 c23)
                              have c24b0 := eq_true (of_decide_eq_true (by first | (with_reducible assumption) | assumption) : 3 ≤ (x0_1.size : Int))
                              have H' := Aside0.mk H
                              clear H
                              go_wp2_with (first | (go_at_call 47; (with_reducible refine (phalaroperef03_Triplet.calls x0_1 true _ A19.out).mono ?_); rintro e w' ⟨rfl, ⟨nd, rfl⟩⟩))
                              go_roundg kj6
                              case measure => have := HK1.out; have := HJ6.out; omega
                              case rel => exact ⟨(x0_1.extract 3 x0_1.size), (x5_1 ++ (x0_1.extract 0 3)), (by first | rfl | (simp; done) | (simp [*]; done)), (by first | rfl | (simp; done) | (simp [*]; done)), H', ⟨by have := HK1.out; have := HJ6.out; omega⟩, ⟨by repeat (first | (with_reducible first | exact HB.out | apply below_alloc | apply pw_below_drewN | apply below_drew1) | exact HB.out)⟩⟩
                            · rw [if_neg c23] at H
                              exact absurd H (by simp)
                          · rw [if_neg c22] at H
                            exact absurd H (by simp)
                        · rw [if_neg c21] at H
                          exact absurd H (by simp)
                      · replace c20 := Bool.eq_false_iff.mpr c20
                        subst c20
                        have H1 : (if x5_1.size + (x0_1.extract 0 1).size ≤ 9223372036854775807 then (if 0 ≤ 1 then (if 1 ≤ (x0_1.size : Int) then (phalaroperef03_Encode.l0 kj6 (x0_1.extract (1 : Int).toNat x0_1.size) true (x5_1 ++ (x0_1.extract 0 1))) else (none)) else (none)) else (none)) = some r := by rw [if_neg (show ¬ (false = true) by decide)] at H; exact H
                        clear H
                        have H := H1
                        clear H1
                        by_cases c25 : x5_1.size + (x0_1.extract 0 1).size ≤ 9223372036854775807
                        · rw [if_pos c25] at H
                          have c25b0 := eq_true c25
                          have c25b1 : decide (x5_1.size + (x0_1.extract 0 1).size ≤ 9223372036854775807) = true := decide_eq_true c25
                          try have c25b2 : (9223372036854775807 < x5_1.size + (x0_1.extract 0 1).size) = False := eq_false (Nat.not_lt.2 c25)
                          by_cases c26 : 0 ≤ 1
                          · rw [if_pos c26] at H
                            have c26b0 := eq_true c26
                            have c26b1 : decide (0 ≤ 1) = true := decide_eq_true c26
                            clear c26
                            by_cases c27 : 1 ≤ (x0_1.size : Int)
                            · rw [if_pos c27] at H
                              have c27b0 := eq_true c27
                              have c27b1 : decide (1 ≤ (x0_1.size : Int)) = true := decide_eq_true c27
                              clear c27
                              have H' := Aside0.mk H
                              clear H
                              go_wp2_with (first | (go_at_call 47; (with_reducible refine (phalaroperef03_Triplet.calls x0_1 false _ A19.out).mono ?_); rintro e w' ⟨rfl, ⟨nd, rfl⟩⟩))
                              go_roundg kj6
                              case measure => have := HK1.out; have := HJ6.out; omega
                              case rel => exact ⟨(x0_1.extract (1 : Int).toNat x0_1.size), (x5_1 ++ (x0_1.extract 0 1)), (by first | rfl | (simp; done) | (simp [*]; done)), (by first | rfl | (simp; done) | (simp [*]; done)), H', ⟨by have := HK1.out; have := HJ6.out; omega⟩, ⟨by repeat (first | (with_reducible first | exact HB.out | apply below_alloc | apply pw_below_drewN | apply below_drew1) | exact HB.out)⟩⟩
                            · rw [if_neg c27] at H
                              exact absurd H (by simp)
                          · rw [if_neg c26] at H
                            exact absurd H (by simp)
                        · rw [if_neg c25] at H
                          exact absurd H (by simp)
                    · replace c18 := Bool.eq_false_iff.mpr c18
                      subst c18
                      have H1 : (if x5_1.size + (x0_1.extract 0 1).size ≤ 9223372036854775807 then (if 0 ≤ 1 then (if 1 ≤ (x0_1.size : Int) then (phalaroperef03_Encode.l0 kj6 (x0_1.extract (1 : Int).toNat x0_1.size) false (x5_1 ++ (x0_1.extract 0 1))) else (none)) else (none)) else (none)) = some r := by rw [if_neg (show ¬ (false = true) by decide)] at H; exact H
                      clear H
                      have H := H1
                      clear H1
                      by_cases c28 : x5_1.size + (x0_1.extract 0 1).size ≤ 9223372036854775807
                      · rw [if_pos c28] at H
                        have c28b0 := eq_true c28
                        have c28b1 : decide (x5_1.size + (x0_1.extract 0 1).size ≤ 9223372036854775807) = true := decide_eq_true c28
                        try have c28b2 : (9223372036854775807 < x5_1.size + (x0_1.extract 0 1).size) = False := eq_false (Nat.not_lt.2 c28)
                        by_cases c29 : 0 ≤ 1
                        · rw [if_pos c29] at H
                          have c29b0 := eq_true c29
                          have c29b1 : decide (0 ≤ 1) = true := decide_eq_true c29
                          clear c29
                          by_cases c30 : 1 ≤ (x0_1.size : Int)
                          · rw [if_pos c30] at H
                            have c30b0 := eq_true c30
                            have c30b1 : decide (1 ≤ (x0_1.size : Int)) = true := decide_eq_true c30
                            clear c30
                            have H' := Aside0.mk H
                            clear H
                            go_wp2
                            go_roundg kj6
                            case measure => have := HK1.out; have := HJ6.out; omega
                            case rel => exact ⟨(x0_1.extract (1 : Int).toNat x0_1.size), (x5_1 ++ (x0_1.extract 0 1)), (by first | rfl | (simp; done) | (simp [*]; done)), (by first | rfl | (simp; done) | (simp [*]; done)), H', ⟨by have := HK1.out; have := HJ6.out; omega⟩, ⟨by repeat (first | (with_reducible first | exact HB.out | apply below_alloc | apply pw_below_drewN | apply below_drew1) | exact HB.out)⟩⟩
                          · rw [if_neg c30] at H
                            exact absurd H (by simp)
                        · rw [if_neg c29] at H
                          exact absurd H (by simp)
                      · rw [if_neg c28] at H
                        exact absurd H (by simp)
                  · rw [if_neg c17] at H
                    exact absurd H (by simp)
                · rw [if_neg c16] at H
                  exact absurd H (by simp)
              · replace c15 := Bool.eq_false_iff.mpr c15
                subst c15
                have H1 : (if a1 = true then ((phalaroperef03_Triplet.f x0_1).bind fun t139 => (if t139 = true then (if 0 ≤ 3 then (if 3 ≤ (x0_1.size : Int) then (if x5_1.size + (x0_1.extract 0 3).size ≤ 9223372036854775807 then (phalaroperef03_Encode.l0 kj6 (x0_1.extract 3 x0_1.size) a1 (x5_1 ++ (x0_1.extract 0 3))) else (none)) else (none)) else (none)) else (if x5_1.size + t135.size ≤ 9223372036854775807 then (if 0 ≤ 1 then (if 1 ≤ (x0_1.size : Int) then (phalaroperef03_Encode.l0 kj6 (x0_1.extract (1 : Int).toNat x0_1.size) a1 (x5_1 ++ t135)) else (none)) else (none)) else (none)))) else (if x5_1.size + t135.size ≤ 9223372036854775807 then (if 0 ≤ 1 then (if 1 ≤ (x0_1.size : Int) then (phalaroperef03_Encode.l0 kj6 (x0_1.extract (1 : Int).toNat x0_1.size) a1 (x5_1 ++ t135)) else (none)) else (none)) else (none))) = some r := by rw [if_neg (show ¬ (false = true) by decide)] at H; exact H
                clear H
                have H := H1
                clear H1
                by_cases c31 : a1 = true
                · subst c31
                  have H1 : ((phalaroperef03_Triplet.f x0_1).bind fun t139 => (if t139 = true then (if 0 ≤ 3 then (if 3 ≤ (x0_1.size : Int) then (if x5_1.size + (x0_1.extract 0 3).size ≤ 9223372036854775807 then (phalaroperef03_Encode.l0 kj6 (x0_1.extract 3 x0_1.size) true (x5_1 ++ (x0_1.extract 0 3))) else (none)) else (none)) else (none)) else (if x5_1.size + t135.size ≤ 9223372036854775807 then (if 0 ≤ 1 then (if 1 ≤ (x0_1.size : Int) then (phalaroperef03_Encode.l0 kj6 (x0_1.extract (1 : Int).toNat x0_1.size) true (x5_1 ++ t135)) else (none)) else (none)) else (none)))) = some r := by rw [if_pos rfl] at H; exact H
                  clear H
                  have H := H1
                  clear H1
                  replace H := Option.bind_eq_some_iff.mp H
                  obtain ⟨t139, A320, H⟩ := H
                  replace H : (if t139 = true then (if 0 ≤ 3 then (if 3 ≤ (x0_1.size : Int) then (if x5_1.size + (x0_1.extract 0 3).size ≤ 9223372036854775807 then (phalaroperef03_Encode.l0 kj6 (x0_1.extract 3 x0_1.size) true (x5_1 ++ (x0_1.extract 0 3))) else (none)) else (none)) else (none)) else (if x5_1.size + t135.size ≤ 9223372036854775807 then (if 0 ≤ 1 then (if 1 ≤ (x0_1.size : Int) then (phalaroperef03_Encode.l0 kj6 (x0_1.extract (1 : Int).toNat x0_1.size) true (x5_1 ++ t135)) else (none)) else (none)) else (none))) = some r := H
                  have A32 := Aside0.mk A320
                  clear A320
                  by_cases c33 : t139 = true
                  · subst c33
                    have H1 : (if 0 ≤ 3 then (if 3 ≤ (x0_1.size : Int) then (if x5_1.size + (x0_1.extract 0 3).size ≤ 9223372036854775807 then (phalaroperef03_Encode.l0 kj6 (x0_1.extract 3 x0_1.size) true (x5_1 ++ (x0_1.extract 0 3))) else (none)) else (none)) else (none)) = some r := by rw [if_pos rfl] at H; exact H
                    clear H
                    have H := H1
                    clear H1
                    by_cases c34 : 0 ≤ 3
                    · rw [if_pos c34] at H
                      have c34b0 := eq_true c34
                      have c34b1 : decide (0 ≤ 3) = true := decide_eq_true c34
                      clear c34
                      by_cases c35 : 3 ≤ (x0_1.size : Int)
                      · rw [if_pos c35] at H
                        have c35b0 := eq_true c35
                        have c35b1 : decide (3 ≤ (x0_1.size : Int)) = true := decide_eq_true c35
                        clear c35
                        by_cases c36 : x5_1.size + (x0_1.extract 0 3).size ≤ 9223372036854775807
                        · rw [if_pos c36] at H
                          have c36b0 := eq_true c36
                          have c36b1 : decide (x5_1.size + (x0_1.extract 0 3).size ≤ 9223372036854775807) = true := decide_eq_true c36
                          try have c36b2 : (9223372036854775807 < x5_1.size + (x0_1.extract 0 3).size) = False := eq_false (Nat.not_lt.2 c36)
                          have c37b0 := eq_true (of_decide_eq_true (by first | (with_reducible assumption) | assumption) : 3 ≤ (x0_1.size : Int))
                          have H' := Aside0.mk H
                          clear H
                          go_wp2_with (first | (go_at_call 47; (with_reducible refine (phalaroperef03_Triplet.calls x0_1 true _ A32.out).mono ?_); rintro e w' ⟨rfl, ⟨nd, rfl⟩⟩))
                          go_roundg kj6
                          case measure => have := HK1.out; have := HJ6.out; omega
                          case rel => exact ⟨(x0_1.extract 3 x0_1.size), (x5_1 ++ (x0_1.extract 0 3)), (by first | rfl | (simp; done) | (simp [*]; done)), (by first | rfl | (simp; done) | (simp [*]; done)), H', ⟨by have := HK1.out; have := HJ6.out; omega⟩, ⟨by repeat (first | (with_reducible first | exact HB.out | apply below_alloc | apply pw_below_drewN | apply below_drew1) | exact HB.out)⟩⟩
                        · rw [if_neg c36] at H
                          exact absurd H (by simp)
                      · rw [if_neg c35] at H
                        exact absurd H (by simp)
                    · rw [if_neg c34] at H
                      exact absurd H (by simp)
                  · replace c33 := Bool.eq_false_iff.mpr c33
                    subst c33
                    have H1 : (if x5_1.size + t135.size ≤ 9223372036854775807 then (if 0 ≤ 1 then (if 1 ≤ (x0_1.size : Int) then (phalaroperef03_Encode.l0 kj6 (x0_1.extract (1 : Int).toNat x0_1.size) true (x5_1 ++ t135)) else (none)) else (none)) else (none)) = some r := by rw [if_neg (show ¬ (false = true) by decide)] at H; exact H
                    clear H
                    have H := H1
                    clear H1
                    by_cases c38 : x5_1.size + t135.size ≤ 9223372036854775807
                    · rw [if_pos c38] at H
                      have c38b0 := eq_true c38
                      have c38b1 : decide (x5_1.size + t135.size ≤ 9223372036854775807) = true := decide_eq_true c38
                      try have c38b2 : (9223372036854775807 < x5_1.size + t135.size) = False := eq_false (Nat.not_lt.2 c38)
                      by_cases c39 : 0 ≤ 1
                      · rw [if_pos c39] at H
                        have c39b0 := eq_true c39
                        have c39b1 : decide (0 ≤ 1) = true := decide_eq_true c39
                        clear c39
                        by_cases c40 : 1 ≤ (x0_1.size : Int)
                        · rw [if_pos c40] at H
                          have c40b0 := eq_true c40
                          have c40b1 : decide (1 ≤ (x0_1.size : Int)) = true := decide_eq_true c40
                          clear c40
                          have H' := Aside0.mk H
                          clear H
                          go_wp2_with (first | (go_at_call 47; (with_reducible refine (phalaroperef03_Triplet.calls x0_1 false _ A32.out).mono ?_); rintro e w' ⟨rfl, ⟨nd, rfl⟩⟩))
                          go_roundg kj6
                          case measure => have := HK1.out; have := HJ6.out; omega
                          case rel => exact ⟨(x0_1.extract (1 : Int).toNat x0_1.size), (x5_1 ++ t135), (by first | rfl | (simp; done) | (simp [*]; done)), (by first | rfl | (simp; done) | (simp [*]; done)), H', ⟨by have := HK1.out; have := HJ6.out; omega⟩, ⟨by repeat (first | (with_reducible first | exact HB.out | apply below_alloc | apply pw_below_drewN | apply below_drew1) | exact HB.out)⟩⟩
                        · rw [if_neg c40] at H
                          exact absurd H (by simp)
                      · rw [if_neg c39] at H
                        exact absurd H (by simp)
                    · rw [if_neg c38] at H
                      exact absurd H (by simp)
                · replace c31 := Bool.eq_false_iff.mpr c31
                  subst c31
                  have H1 : (if x5_1.size + t135.size ≤ 9223372036854775807 then (if 0 ≤ 1 then (if 1 ≤ (x0_1.size : Int) then (phalaroperef03_Encode.l0 kj6 (x0_1.extract (1 : Int).toNat x0_1.size) false (x5_1 ++ t135)) else (none)) else (none)) else (none)) = some r := by rw [if_neg (show ¬ (false = true) by decide)] at H; exact H
                  clear H
                  have H := H1
                  clear H1
                  by_cases c41 : x5_1.size + t135.size ≤ 9223372036854775807
                  · rw [if_pos c41] at H
                    have c41b0 := eq_true c41
                    have c41b1 : decide (x5_1.size + t135.size ≤ 9223372036854775807) = true := decide_eq_true c41
                    try have c41b2 : (9223372036854775807 < x5_1.size + t135.size) = False := eq_false (Nat.not_lt.2 c41)
                    by_cases c42 : 0 ≤ 1
                    · rw [if_pos c42] at H
                      have c42b0 := eq_true c42
                      have c42b1 : decide (0 ≤ 1) = true := decide_eq_true c42
                      clear c42
                      by_cases c43 : 1 ≤ (x0_1.size : Int)
                      · rw [if_pos c43] at H
                        have c43b0 := eq_true c43
                        have c43b1 : decide (1 ≤ (x0_1.size : Int)) = true := decide_eq_true c43
                        clear c43
                        have H' := Aside0.mk H
                        clear H
                        go_wp2
                        go_roundg kj6
                        case measure => have := HK1.out; have := HJ6.out; omega
                        case rel => exact ⟨(x0_1.extract (1 : Int).toNat x0_1.size), (x5_1 ++ t135), (by first | rfl | (simp; done) | (simp [*]; done)), (by first | rfl | (simp; done) | (simp [*]; done)), H', ⟨by have := HK1.out; have := HJ6.out; omega⟩, ⟨by repeat (first | (with_reducible first | exact HB.out | apply below_alloc | apply pw_below_drewN | apply below_drew1) | exact HB.out)⟩⟩
                      · rw [if_neg c43] at H
                        exact absurd H (by simp)
                    · rw [if_neg c42] at H
                      exact absurd H (by simp)
                  · rw [if_neg c41] at H
                    exact absurd H (by simp)
        · rw [if_neg c4] at H
          exact absurd H (by simp)

/-! ### phalaroperef03_Norm: function 53 -/
def phalaroperef03_Norm.l0 : Nat → ByteArray → ByteArray → Option (ByteArray)
  | 0, _, _ => none
  | k + 1, x0, x3 => if x0.toList = ([] : List UInt8) then (some x3) else ((phalaroperef03_Triplet.f x0).bind fun t140 => (if t140 = true then (if 0 ≤ 3 then (if 3 ≤ (x0.size : Int) then ((phalaroperef03_Decode.f k (x0.extract 0 3)).bind fun bt141 => (if 0 < (bt141.1.size : Int) then ((phalaroperef03_One.f (bt bt141.1 0)).bind fun t143 => (if x3.size + t143.size ≤ 9223372036854775807 then (phalaroperef03_Norm.l0 k (x0.extract 3 x0.size) (x3 ++ t143)) else (none))) else (none))) else (none)) else (none)) else (if 0 ≤ 1 then (if 1 ≤ (x0.size : Int) then (if x3.size + (x0.extract 0 1).size ≤ 9223372036854775807 then (phalaroperef03_Norm.l0 k (x0.extract 1 x0.size) (x3 ++ (x0.extract 0 1))) else (none)) else (none)) else (none))))
def phalaroperef03_Norm.f (k : Nat) (a0 : ByteArray) : Option (ByteArray) := phalaroperef03_Norm.l0 k a0 (⟨#[]⟩ : ByteArray)
theorem phalaroperef03_Norm.mono_l : ∀ k, (∀ y0 y1, LeO (phalaroperef03_Norm.l0 k y0 y1) (phalaroperef03_Norm.l0 (k + 1) y0 y1))
  | 0 => fun _ _ r h => by simp [phalaroperef03_Norm.l0] at h
  | k + 1 => by
    have ih0 := phalaroperef03_Norm.mono_l k
    · intro y0 y1
      unfold phalaroperef03_Norm.l0
      repeat' first
      | (with_reducible exact ih0 _ _)
      | (with_reducible exact phalaroperef03_Decode.mono _ _)
      | (with_reducible exact LeO.refl _)
      | (with_reducible exact LeO.none _)
      | (with_reducible refine LeO.ite ?_ ?_)
      | (with_reducible refine LeO.bind ?_ (fun _ => ?_))
      | exact ih0 _ _
      | exact phalaroperef03_Decode.mono _ _
      | exact LeO.none _
      | refine LeO.ite ?_ ?_
      | refine LeO.bind ?_ (fun _ => ?_)
theorem phalaroperef03_Norm.mono : ∀ a0 k, LeO (phalaroperef03_Norm.f k a0) (phalaroperef03_Norm.f (k + 1) a0) := by
  intro a0 k
  have ih0 := phalaroperef03_Norm.mono_l k
  unfold phalaroperef03_Norm.f
  repeat' first
      | (with_reducible exact ih0 _ _)
      | (with_reducible exact phalaroperef03_Decode.mono _ _)
      | (with_reducible exact LeO.refl _)
      | (with_reducible exact LeO.none _)
      | (with_reducible refine LeO.ite ?_ ?_)
      | (with_reducible refine LeO.bind ?_ (fun _ => ?_))
      | exact ih0 _ _
      | exact phalaroperef03_Decode.mono _ _
      | exact LeO.none _
      | refine LeO.ite ?_ ?_
      | refine LeO.bind ?_ (fun _ => ?_)
set_option maxHeartbeats 8000000 in
set_option maxRecDepth 100000 in
theorem phalaroperef03_Norm.calls (k : Nat) (a0 : ByteArray) (r : ByteArray) (w : World) (h : phalaroperef03_Norm.f k a0 = some r) :
    Calls Try.prog 53 #[.string a0] w fun e w' => e = .returned (.string r) ∧ Below w.heap.size w w' := by
  have HB := Aside0.mk (Below.refl w.heap.size w)
  have H : (phalaroperef03_Norm.l0 k a0 (⟨#[]⟩ : ByteArray)) = some r := h
  clear h
  have H' := Aside0.mk H
  clear H
  go_enter Try.func53, Try.ntmps53
  go_wp2
  go_loopg [0, 3] k (fun kq v0 v3 w' => ∃ (x0_1 : ByteArray) (x3_1 : ByteArray), v0 = .string x0_1 ∧ v3 = .string x3_1 ∧ Aside0 (phalaroperef03_Norm.l0 kq x0_1 x3_1 = some r) ∧ Aside0 (kq ≤ k) ∧ Aside0 (Below w.heap.size w w'))
  case atStart => exact ⟨(a0), ((⟨#[]⟩ : ByteArray)), (by first | rfl | (simp; done) | (simp [*]; done)), (by first | rfl | (simp; done) | (simp [*]; done)), H', ⟨Nat.le_refl _⟩, ⟨by repeat (first | (with_reducible first | exact HB.out | apply below_alloc | apply pw_below_drewN | apply below_drew1) | exact HB.out)⟩⟩
  case round =>
    clear H'
    obtain ⟨x0_1, x3_1, rfl, rfl, HA, HK1, HB⟩ := hrel
    cases gk with
    | zero => exact absurd HA.out (by simp [phalaroperef03_Norm.l0])
    | succ k1 =>
      have H := HA.out
      clear HA
      simp only [phalaroperef03_Norm.l0] at H
      by_cases c2 : x0_1.toList = ([] : List UInt8)
      · rw [if_pos c2] at H
        have c2b0 : (x0_1.toList == ([] : List UInt8)) = true := beq_iff_eq.mpr c2
        have c2b1 : (x0_1.toList != ([] : List UInt8)) = false := bne_eq_false_iff_eq.mpr c2
        clear c2
        obtain rfl := Option.some.inj H
        go_wp2
        go_ret
        exact ⟨by first | rfl | (simp [errW_none, errW_some] <;> rfl) | (simp [*, errW_none, errW_some] <;> rfl), by repeat (first | (with_reducible first | exact HB.out | apply below_alloc | apply pw_below_drewN | apply below_drew1) | exact HB.out)⟩
      · rw [if_neg c2] at H
        have c2b0 : (x0_1.toList == ([] : List UInt8)) = false := beq_eq_false_iff_ne.mpr c2
        have c2b1 : (x0_1.toList != ([] : List UInt8)) = true := bne_iff_ne.mpr c2
        replace H := Option.bind_eq_some_iff.mp H
        obtain ⟨t140, A30, H⟩ := H
        replace H : (if t140 = true then (if 0 ≤ 3 then (if 3 ≤ (x0_1.size : Int) then ((phalaroperef03_Decode.f k1 (x0_1.extract 0 3)).bind fun bt141 => (if 0 < (bt141.1.size : Int) then ((phalaroperef03_One.f (bt bt141.1 0)).bind fun t143 => (if x3_1.size + t143.size ≤ 9223372036854775807 then (phalaroperef03_Norm.l0 k1 (x0_1.extract 3 x0_1.size) (x3_1 ++ t143)) else (none))) else (none))) else (none)) else (none)) else (if 0 ≤ 1 then (if 1 ≤ (x0_1.size : Int) then (if x3_1.size + (x0_1.extract 0 1).size ≤ 9223372036854775807 then (phalaroperef03_Norm.l0 k1 (x0_1.extract 1 x0_1.size) (x3_1 ++ (x0_1.extract 0 1))) else (none)) else (none)) else (none))) = some r := H
        have A3 := Aside0.mk A30
        clear A30
        by_cases c4 : t140 = true
        · subst c4
          have H1 : (if 0 ≤ 3 then (if 3 ≤ (x0_1.size : Int) then ((phalaroperef03_Decode.f k1 (x0_1.extract 0 3)).bind fun bt141 => (if 0 < (bt141.1.size : Int) then ((phalaroperef03_One.f (bt bt141.1 0)).bind fun t143 => (if x3_1.size + t143.size ≤ 9223372036854775807 then (phalaroperef03_Norm.l0 k1 (x0_1.extract 3 x0_1.size) (x3_1 ++ t143)) else (none))) else (none))) else (none)) else (none)) = some r := by rw [if_pos rfl] at H; exact H
          clear H
          have H := H1
          clear H1
          by_cases c5 : 0 ≤ 3
          · rw [if_pos c5] at H
            have c5b0 := eq_true c5
            have c5b1 : decide (0 ≤ 3) = true := decide_eq_true c5
            clear c5
            by_cases c6 : 3 ≤ (x0_1.size : Int)
            · rw [if_pos c6] at H
              have c6b0 := eq_true c6
              have c6b1 : decide (3 ≤ (x0_1.size : Int)) = true := decide_eq_true c6
              clear c6
              replace H := Option.bind_eq_some_iff.mp H
              obtain ⟨⟨t141, t142⟩, A70, H⟩ := H
              replace H : (if 0 < (t141.size : Int) then ((phalaroperef03_One.f (bt t141 0)).bind fun t143 => (if x3_1.size + t143.size ≤ 9223372036854775807 then (phalaroperef03_Norm.l0 k1 (x0_1.extract 3 x0_1.size) (x3_1 ++ t143)) else (none))) else (none)) = some r := H
              have A7 := Aside0.mk A70
              clear A70
              by_cases c8 : 0 < (t141.size : Int)
              · rw [if_pos c8] at H
                have c8b0 : decide (0 < (t141.size : Int)) = true := decide_eq_true c8
                have c8b1 : decide (0 < t141.size) = true := decide_eq_true (by omega)
                clear c8
                replace H := Option.bind_eq_some_iff.mp H
                obtain ⟨t143, A100, H⟩ := H
                replace H : (if x3_1.size + t143.size ≤ 9223372036854775807 then (phalaroperef03_Norm.l0 k1 (x0_1.extract 3 x0_1.size) (x3_1 ++ t143)) else (none)) = some r := H
                have A10 := Aside0.mk A100
                clear A100
                by_cases c11 : x3_1.size + t143.size ≤ 9223372036854775807
                · rw [if_pos c11] at H
                  have c11b0 := eq_true c11
                  have c11b1 : decide (x3_1.size + t143.size ≤ 9223372036854775807) = true := decide_eq_true c11
                  try have c11b2 : (9223372036854775807 < x3_1.size + t143.size) = False := eq_false (Nat.not_lt.2 c11)
                  have c12b0 := eq_true (of_decide_eq_true (by first | (with_reducible assumption) | assumption) : 3 ≤ (x0_1.size : Int))
                  have H' := Aside0.mk H
                  clear H
                  go_wp2_with (first | ((with_reducible refine gate_callee (f := 47) rfl ?_); refine goesL_ (some 9) rfl rfl Try.func47 (by kernel_rfl) rfl #[.string x0_1] rfl (by (try simp only [List.map_toArray, List.map_cons, List.map_nil]); first | done | rfl | (simp only [List.length_drop, List.length_take]; rfl)) ?_; (with_reducible refine (phalaroperef03_Triplet.calls x0_1 true _ A3.out).mono ?_); rintro e w' ⟨rfl, ⟨nd, rfl⟩⟩; refine ⟨_, rfl, ?_⟩) | ((with_reducible refine gate_callee (f := 49) rfl ?_); refine goesL_ (some 13) rfl rfl Try.func49 (by kernel_rfl) rfl #[.string (x0_1.extract 0 3)] rfl (by (try simp only [List.map_toArray, List.map_cons, List.map_nil]); first | done | rfl | (simp only [List.length_drop, List.length_take]; rfl)) ?_; (with_reducible refine (phalaroperef03_Decode.calls k1 (x0_1.extract 0 3) t141 t142 _ A7.out).mono ?_); rintro e w13 ⟨rfl, hb⟩; refine ⟨_, rfl, ?_⟩; have n0_ := Aside0.mk (below_step (by repeat (first | (with_reducible first | exact HB.out | apply below_alloc | apply pw_below_drewN | apply below_drew1) | exact HB.out)) hb); clear HB; have HB := n0_; clear n0_; (try clear hb); (try clear hb2); (try clear hk); (try clear hi); have p9 : 0 ≤ (0 : Int) := (by omega); have q9 : 0 < t141.size := (by have : (0 : Int) < (t141.size : Int) := of_decide_eq_true (by first | (with_reducible assumption) | assumption); omega); have hx9 : ∀ h : 0 < t141.size, ((t141[0]'h).toNat : Int) = bt t141 0 := bt_at t141 0; clear p9; have qi9 : (0 < (t141.size : Int)) = True := eq_true (of_decide_eq_true (by first | (with_reducible assumption) | assumption)); replace q9 := eq_true q9) | ((with_reducible refine gate_callee (f := 45) rfl ?_); refine goesL_ (some 19) rfl rfl Try.func45 (by kernel_rfl) rfl #[.int .u8 (bt t141 0)] rfl (by (try simp only [List.map_toArray, List.map_cons, List.map_nil]); first | done | rfl | (simp only [List.length_drop, List.length_take]; rfl)) ?_; (with_reducible refine (phalaroperef03_One.calls (bt t141 0) t143 _ A10.out).mono ?_); rintro e w14 ⟨rfl, hb⟩; refine ⟨_, rfl, ?_⟩; have n0_ := Aside0.mk (below_step (by repeat (first | (with_reducible first | exact HB.out | apply below_alloc | apply pw_below_drewN | apply below_drew1) | exact HB.out)) hb); clear HB; have HB := n0_; clear n0_; (try clear hb); (try clear hb2); (try clear hk); (try clear hi)))
                  go_roundg k1
                  case measure => have := HK1.out; omega
                  case rel => exact ⟨(x0_1.extract 3 x0_1.size), (x3_1 ++ t143), (by first | rfl | (simp; done) | (simp [*]; done)), (by first | rfl | (simp; done) | (simp [*]; done)), H', ⟨by have := HK1.out; omega⟩, ⟨by repeat (first | (with_reducible first | exact HB.out | apply below_alloc | apply pw_below_drewN | apply below_drew1) | exact HB.out)⟩⟩
                · rw [if_neg c11] at H
                  exact absurd H (by simp)
              · rw [if_neg c8] at H
                exact absurd H (by simp)
            · rw [if_neg c6] at H
              exact absurd H (by simp)
          · rw [if_neg c5] at H
            exact absurd H (by simp)
        · replace c4 := Bool.eq_false_iff.mpr c4
          subst c4
          have H1 : (if 0 ≤ 1 then (if 1 ≤ (x0_1.size : Int) then (if x3_1.size + (x0_1.extract 0 1).size ≤ 9223372036854775807 then (phalaroperef03_Norm.l0 k1 (x0_1.extract 1 x0_1.size) (x3_1 ++ (x0_1.extract 0 1))) else (none)) else (none)) else (none)) = some r := by rw [if_neg (show ¬ (false = true) by decide)] at H; exact H
          clear H
          have H := H1
          clear H1
          by_cases c15 : 0 ≤ 1
          · rw [if_pos c15] at H
            have c15b0 := eq_true c15
            have c15b1 : decide (0 ≤ 1) = true := decide_eq_true c15
            clear c15
            by_cases c16 : 1 ≤ (x0_1.size : Int)
            · rw [if_pos c16] at H
              have c16b0 := eq_true c16
              have c16b1 : decide (1 ≤ (x0_1.size : Int)) = true := decide_eq_true c16
              clear c16
              by_cases c17 : x3_1.size + (x0_1.extract 0 1).size ≤ 9223372036854775807
              · rw [if_pos c17] at H
                have c17b0 := eq_true c17
                have c17b1 : decide (x3_1.size + (x0_1.extract 0 1).size ≤ 9223372036854775807) = true := decide_eq_true c17
                try have c17b2 : (9223372036854775807 < x3_1.size + (x0_1.extract 0 1).size) = False := eq_false (Nat.not_lt.2 c17)
                have c18b0 := eq_true (of_decide_eq_true (by first | (with_reducible assumption) | assumption) : 1 ≤ (x0_1.size : Int))
                have H' := Aside0.mk H
                clear H
                go_wp2_with (first | ((with_reducible refine gate_callee (f := 47) rfl ?_); refine goesL_ (some 9) rfl rfl Try.func47 (by kernel_rfl) rfl #[.string x0_1] rfl (by (try simp only [List.map_toArray, List.map_cons, List.map_nil]); first | done | rfl | (simp only [List.length_drop, List.length_take]; rfl)) ?_; (with_reducible refine (phalaroperef03_Triplet.calls x0_1 false _ A3.out).mono ?_); rintro e w' ⟨rfl, ⟨nd, rfl⟩⟩; refine ⟨_, rfl, ?_⟩))
                go_roundg k1
                case measure => have := HK1.out; omega
                case rel => exact ⟨(x0_1.extract 1 x0_1.size), (x3_1 ++ (x0_1.extract 0 1)), (by first | rfl | (simp; done) | (simp [*]; done)), (by first | rfl | (simp; done) | (simp [*]; done)), H', ⟨by have := HK1.out; omega⟩, ⟨by repeat (first | (with_reducible first | exact HB.out | apply below_alloc | apply pw_below_drewN | apply below_drew1) | exact HB.out)⟩⟩
              · rw [if_neg c17] at H
                exact absurd H (by simp)
            · rw [if_neg c16] at H
              exact absurd H (by simp)
          · rw [if_neg c15] at H
            exact absurd H (by simp)

/-! ### phalaropelaw03_PctTells: function 10 -/
def phalaropelaw03_PctTells.f (k : Nat) (a0 : ByteArray) : Option (Bool) := (phalaropelaw03_awake.f).bind fun t144 => (if (a0.size : Int) > 2000 then (some t144) else ((pct_Decode.f a0).bind fun bt145 => ((phalaroperef03_Decode.f k a0).bind fun bt147 => (if t144 = true then ((pct_Encode.f a0 true).bind fun t149 => ((phalaroperef03_Encode.f k a0 true).bind fun t150 => (if t149.toList = t150.toList then ((pct_Encode.f a0 false).bind fun t151 => ((phalaroperef03_Encode.f k a0 false).bind fun t152 => (if t151.toList = t152.toList then (if bt145.1.toList = bt147.1.toList then (if (bt145.2 == bt147.2) = true then ((pct_Norm.f a0).bind fun t153 => ((phalaroperef03_Norm.f k a0).bind fun t154 => (some (t153.toList == t154.toList)))) else (some false)) else (some false)) else (some false)))) else (some false)))) else (some false)))))
theorem phalaropelaw03_PctTells.mono : ∀ a0 k, LeO (phalaropelaw03_PctTells.f k a0) (phalaropelaw03_PctTells.f (k + 1) a0) := by
  intro a0 k
  unfold phalaropelaw03_PctTells.f
  repeat' first
      | (with_reducible exact phalaroperef03_Decode.mono _ _)
      | (with_reducible exact phalaroperef03_Encode.mono _ _ _)
      | (with_reducible exact phalaroperef03_Norm.mono _ _)
      | (with_reducible exact LeO.refl _)
      | (with_reducible exact LeO.none _)
      | (with_reducible refine LeO.ite ?_ ?_)
      | (with_reducible refine LeO.bind ?_ (fun _ => ?_))
      | exact phalaroperef03_Decode.mono _ _
      | exact phalaroperef03_Encode.mono _ _ _
      | exact phalaroperef03_Norm.mono _ _
      | exact LeO.none _
      | refine LeO.ite ?_ ?_
      | refine LeO.bind ?_ (fun _ => ?_)
set_option maxHeartbeats 8000000 in
set_option maxRecDepth 100000 in
theorem phalaropelaw03_PctTells.calls (k : Nat) (a0 : ByteArray) (r : Bool) (w : World) (h : phalaropelaw03_PctTells.f k a0 = some r) :
    Calls Try.prog 10 #[.string a0] w fun e w' => e = .returned (.bool r) ∧ Below w.heap.size w w' := by
  have HB := Aside0.mk (Below.refl w.heap.size w)
  have H : ((phalaropelaw03_awake.f).bind fun t144 => (if (a0.size : Int) > 2000 then (some t144) else ((pct_Decode.f a0).bind fun bt145 => ((phalaroperef03_Decode.f k a0).bind fun bt147 => (if t144 = true then ((pct_Encode.f a0 true).bind fun t149 => ((phalaroperef03_Encode.f k a0 true).bind fun t150 => (if t149.toList = t150.toList then ((pct_Encode.f a0 false).bind fun t151 => ((phalaroperef03_Encode.f k a0 false).bind fun t152 => (if t151.toList = t152.toList then (if bt145.1.toList = bt147.1.toList then (if (bt145.2 == bt147.2) = true then ((pct_Norm.f a0).bind fun t153 => ((phalaroperef03_Norm.f k a0).bind fun t154 => (some (t153.toList == t154.toList)))) else (some false)) else (some false)) else (some false)))) else (some false)))) else (some false)))))) = some r := h
  clear h
  replace H := Option.bind_eq_some_iff.mp H
  obtain ⟨t144, A20, H⟩ := H
  replace H : (if (a0.size : Int) > 2000 then (some t144) else ((pct_Decode.f a0).bind fun bt145 => ((phalaroperef03_Decode.f k a0).bind fun bt147 => (if t144 = true then ((pct_Encode.f a0 true).bind fun t149 => ((phalaroperef03_Encode.f k a0 true).bind fun t150 => (if t149.toList = t150.toList then ((pct_Encode.f a0 false).bind fun t151 => ((phalaroperef03_Encode.f k a0 false).bind fun t152 => (if t151.toList = t152.toList then (if bt145.1.toList = bt147.1.toList then (if (bt145.2 == bt147.2) = true then ((pct_Norm.f a0).bind fun t153 => ((phalaroperef03_Norm.f k a0).bind fun t154 => (some (t153.toList == t154.toList)))) else (some false)) else (some false)) else (some false)))) else (some false)))) else (some false))))) = some r := H
  have A2 := Aside0.mk A20
  clear A20
  by_cases c3 : (a0.size : Int) > 2000
  · rw [if_pos c3] at H
    have c3b0 : decide (2000 < (a0.size : Int)) = true := decide_eq_true c3
    have c3b1 : decide (2000 < a0.size) = true := decide_eq_true (by omega)
    clear c3
    obtain rfl := Option.some.inj H
    go_enter Try.func10, Try.ntmps10
    go_wp2_with (first | ((with_reducible refine gate_callee (f := 41) rfl ?_); refine goesL_ (some 8) rfl rfl Try.func41 (by kernel_rfl) rfl #[] rfl (by (try simp only [List.map_toArray, List.map_cons, List.map_nil]); first | done | rfl | (simp only [List.length_drop, List.length_take]; rfl)) ?_; (with_reducible refine (phalaropelaw03_awake.calls  t144 _ A2.out).mono ?_); rintro e w4 ⟨rfl, hb⟩; refine ⟨_, rfl, ?_⟩; have n0_ := Aside0.mk (below_step (by repeat (first | (with_reducible first | exact HB.out | apply below_alloc | apply pw_below_drewN | apply below_drew1) | exact HB.out)) hb); clear HB; have HB := n0_; clear n0_; (try clear hb); (try clear hb2); (try clear hk); (try clear hi)))
    go_ret
    exact ⟨by first | rfl | (simp [errW_none, errW_some] <;> rfl) | (simp [*, errW_none, errW_some] <;> rfl), by repeat (first | (with_reducible first | exact HB.out | apply below_alloc | apply pw_below_drewN | apply below_drew1) | exact HB.out)⟩
  · rw [if_neg c3] at H
    have c3b0 : decide (2000 < (a0.size : Int)) = false := decide_eq_false c3
    have c3b1 : decide (2000 < a0.size) = false := decide_eq_false (by omega)
    clear c3
    replace H := Option.bind_eq_some_iff.mp H
    obtain ⟨⟨t145, t146⟩, A50, H⟩ := H
    replace H : ((phalaroperef03_Decode.f k a0).bind fun bt147 => (if t144 = true then ((pct_Encode.f a0 true).bind fun t149 => ((phalaroperef03_Encode.f k a0 true).bind fun t150 => (if t149.toList = t150.toList then ((pct_Encode.f a0 false).bind fun t151 => ((phalaroperef03_Encode.f k a0 false).bind fun t152 => (if t151.toList = t152.toList then (if t145.toList = bt147.1.toList then (if (t146 == bt147.2) = true then ((pct_Norm.f a0).bind fun t153 => ((phalaroperef03_Norm.f k a0).bind fun t154 => (some (t153.toList == t154.toList)))) else (some false)) else (some false)) else (some false)))) else (some false)))) else (some false))) = some r := H
    have A5 := Aside0.mk A50
    clear A50
    replace H := Option.bind_eq_some_iff.mp H
    obtain ⟨⟨t147, t148⟩, A60, H⟩ := H
    replace H : (if t144 = true then ((pct_Encode.f a0 true).bind fun t149 => ((phalaroperef03_Encode.f k a0 true).bind fun t150 => (if t149.toList = t150.toList then ((pct_Encode.f a0 false).bind fun t151 => ((phalaroperef03_Encode.f k a0 false).bind fun t152 => (if t151.toList = t152.toList then (if t145.toList = t147.toList then (if (t146 == t148) = true then ((pct_Norm.f a0).bind fun t153 => ((phalaroperef03_Norm.f k a0).bind fun t154 => (some (t153.toList == t154.toList)))) else (some false)) else (some false)) else (some false)))) else (some false)))) else (some false)) = some r := H
    have A6 := Aside0.mk A60
    clear A60
    by_cases c7 : t144 = true
    · subst c7
      have H1 : ((pct_Encode.f a0 true).bind fun t149 => ((phalaroperef03_Encode.f k a0 true).bind fun t150 => (if t149.toList = t150.toList then ((pct_Encode.f a0 false).bind fun t151 => ((phalaroperef03_Encode.f k a0 false).bind fun t152 => (if t151.toList = t152.toList then (if t145.toList = t147.toList then (if (t146 == t148) = true then ((pct_Norm.f a0).bind fun t153 => ((phalaroperef03_Norm.f k a0).bind fun t154 => (some (t153.toList == t154.toList)))) else (some false)) else (some false)) else (some false)))) else (some false)))) = some r := by rw [if_pos rfl] at H; exact H
      clear H
      have H := H1
      clear H1
      replace H := Option.bind_eq_some_iff.mp H
      obtain ⟨t149, A80, H⟩ := H
      replace H : ((phalaroperef03_Encode.f k a0 true).bind fun t150 => (if t149.toList = t150.toList then ((pct_Encode.f a0 false).bind fun t151 => ((phalaroperef03_Encode.f k a0 false).bind fun t152 => (if t151.toList = t152.toList then (if t145.toList = t147.toList then (if (t146 == t148) = true then ((pct_Norm.f a0).bind fun t153 => ((phalaroperef03_Norm.f k a0).bind fun t154 => (some (t153.toList == t154.toList)))) else (some false)) else (some false)) else (some false)))) else (some false))) = some r := H
      have A8 := Aside0.mk A80
      clear A80
      replace H := Option.bind_eq_some_iff.mp H
      obtain ⟨t150, A90, H⟩ := H
      replace H : (if t149.toList = t150.toList then ((pct_Encode.f a0 false).bind fun t151 => ((phalaroperef03_Encode.f k a0 false).bind fun t152 => (if t151.toList = t152.toList then (if t145.toList = t147.toList then (if (t146 == t148) = true then ((pct_Norm.f a0).bind fun t153 => ((phalaroperef03_Norm.f k a0).bind fun t154 => (some (t153.toList == t154.toList)))) else (some false)) else (some false)) else (some false)))) else (some false)) = some r := H
      have A9 := Aside0.mk A90
      clear A90
      by_cases c10 : t149.toList = t150.toList
      · rw [if_pos c10] at H
        have c10b0 : (t149.toList == t150.toList) = true := beq_iff_eq.mpr c10
        have c10b1 : (t149.toList != t150.toList) = false := bne_eq_false_iff_eq.mpr c10
        clear c10
        replace H := Option.bind_eq_some_iff.mp H
        obtain ⟨t151, A110, H⟩ := H
        replace H : ((phalaroperef03_Encode.f k a0 false).bind fun t152 => (if t151.toList = t152.toList then (if t145.toList = t147.toList then (if (t146 == t148) = true then ((pct_Norm.f a0).bind fun t153 => ((phalaroperef03_Norm.f k a0).bind fun t154 => (some (t153.toList == t154.toList)))) else (some false)) else (some false)) else (some false))) = some r := H
        have A11 := Aside0.mk A110
        clear A110
        replace H := Option.bind_eq_some_iff.mp H
        obtain ⟨t152, A120, H⟩ := H
        replace H : (if t151.toList = t152.toList then (if t145.toList = t147.toList then (if (t146 == t148) = true then ((pct_Norm.f a0).bind fun t153 => ((phalaroperef03_Norm.f k a0).bind fun t154 => (some (t153.toList == t154.toList)))) else (some false)) else (some false)) else (some false)) = some r := H
        have A12 := Aside0.mk A120
        clear A120
        by_cases c13 : t151.toList = t152.toList
        · rw [if_pos c13] at H
          have c13b0 : (t151.toList == t152.toList) = true := beq_iff_eq.mpr c13
          have c13b1 : (t151.toList != t152.toList) = false := bne_eq_false_iff_eq.mpr c13
          clear c13
          by_cases c14 : t145.toList = t147.toList
          · rw [if_pos c14] at H
            have c14b0 : (t145.toList == t147.toList) = true := beq_iff_eq.mpr c14
            have c14b1 : (t145.toList != t147.toList) = false := bne_eq_false_iff_eq.mpr c14
            clear c14
            by_cases c15 : (t146 == t148) = true
            · rw [if_pos c15] at H
              have c15b0 : (t146 == t148) = true := c15
              (try (have c15b1 : decide (t146 = t148) = true := by simpa using c15))
              (try (have c15b2 : (t146 == t148) = true := by simpa using c15))
              clear c15
              replace H := Option.bind_eq_some_iff.mp H
              obtain ⟨t153, A160, H⟩ := H
              replace H : ((phalaroperef03_Norm.f k a0).bind fun t154 => (some (t153.toList == t154.toList))) = some r := H
              have A16 := Aside0.mk A160
              clear A160
              replace H := Option.bind_eq_some_iff.mp H
              obtain ⟨t154, A170, H⟩ := H
              replace H : (some (t153.toList == t154.toList)) = some r := H
              have A17 := Aside0.mk A170
              clear A170
              obtain rfl := Option.some.inj H
              go_enter Try.func10, Try.ntmps10
              go_wp2_with (first | ((with_reducible refine gate_callee (f := 41) rfl ?_); refine goesL_ (some 8) rfl rfl Try.func41 (by kernel_rfl) rfl #[] rfl (by (try simp only [List.map_toArray, List.map_cons, List.map_nil]); first | done | rfl | (simp only [List.length_drop, List.length_take]; rfl)) ?_; (with_reducible refine (phalaropelaw03_awake.calls  true _ A2.out).mono ?_); rintro e w18 ⟨rfl, hb⟩; refine ⟨_, rfl, ?_⟩; have n0_ := Aside0.mk (below_step (by repeat (first | (with_reducible first | exact HB.out | apply below_alloc | apply pw_below_drewN | apply below_drew1) | exact HB.out)) hb); clear HB; have HB := n0_; clear n0_; (try clear hb); (try clear hb2); (try clear hk); (try clear hi)) | ((with_reducible refine gate_callee (f := 48) rfl ?_); refine goesL_ (some 15) rfl rfl Try.func48 (by kernel_rfl) rfl #[.string a0] rfl (by (try simp only [List.map_toArray, List.map_cons, List.map_nil]); first | done | rfl | (simp only [List.length_drop, List.length_take]; rfl)) ?_; (with_reducible refine (pct_Decode.calls a0 t145 t146 _ A5.out).mono ?_); rintro e w19 ⟨rfl, hb⟩; refine ⟨_, rfl, ?_⟩; have n0_ := Aside0.mk (below_step (by repeat (first | (with_reducible first | exact HB.out | apply below_alloc | apply pw_below_drewN | apply below_drew1) | exact HB.out)) hb); clear HB; have HB := n0_; clear n0_; (try clear hb); (try clear hb2); (try clear hk); (try clear hi)) | ((with_reducible refine gate_callee (f := 49) rfl ?_); refine goesL_ (some 20) rfl rfl Try.func49 (by kernel_rfl) rfl #[.string a0] rfl (by (try simp only [List.map_toArray, List.map_cons, List.map_nil]); first | done | rfl | (simp only [List.length_drop, List.length_take]; rfl)) ?_; (with_reducible refine (phalaroperef03_Decode.calls k a0 t147 t148 _ A6.out).mono ?_); rintro e w20 ⟨rfl, hb⟩; refine ⟨_, rfl, ?_⟩; have n0_ := Aside0.mk (below_step (by repeat (first | (with_reducible first | exact HB.out | apply below_alloc | apply pw_below_drewN | apply below_drew1) | exact HB.out)) hb); clear HB; have HB := n0_; clear n0_; (try clear hb); (try clear hb2); (try clear hk); (try clear hi)) | (go_at_call 50; (with_reducible refine (pct_Encode.calls a0 true t149 _ A8.out).mono ?_); rintro e w21 ⟨rfl, hb⟩; have n0_ := Aside0.mk (below_step (by repeat (first | (with_reducible first | exact HB.out | apply below_alloc | apply pw_below_drewN | apply below_drew1) | exact HB.out)) hb); clear HB; have HB := n0_; clear n0_; (try clear hb); (try clear hb2); (try clear hk); (try clear hi)) | (go_at_call 51; (with_reducible refine (phalaroperef03_Encode.calls k a0 true t150 _ A9.out).mono ?_); rintro e w22 ⟨rfl, hb⟩; have n0_ := Aside0.mk (below_step (by repeat (first | (with_reducible first | exact HB.out | apply below_alloc | apply pw_below_drewN | apply below_drew1) | exact HB.out)) hb); clear HB; have HB := n0_; clear n0_; (try clear hb); (try clear hb2); (try clear hk); (try clear hi)) | (go_at_call 50; (with_reducible refine (pct_Encode.calls a0 false t151 _ A11.out).mono ?_); rintro e w23 ⟨rfl, hb⟩; have n0_ := Aside0.mk (below_step (by repeat (first | (with_reducible first | exact HB.out | apply below_alloc | apply pw_below_drewN | apply below_drew1) | exact HB.out)) hb); clear HB; have HB := n0_; clear n0_; (try clear hb); (try clear hb2); (try clear hk); (try clear hi)) | (go_at_call 51; (with_reducible refine (phalaroperef03_Encode.calls k a0 false t152 _ A12.out).mono ?_); rintro e w24 ⟨rfl, hb⟩; have n0_ := Aside0.mk (below_step (by repeat (first | (with_reducible first | exact HB.out | apply below_alloc | apply pw_below_drewN | apply below_drew1) | exact HB.out)) hb); clear HB; have HB := n0_; clear n0_; (try clear hb); (try clear hb2); (try clear hk); (try clear hi)) | (go_at_call 52; (with_reducible refine (pct_Norm.calls a0 t153 _ A16.out).mono ?_); rintro e w25 ⟨rfl, hb⟩; have n0_ := Aside0.mk (below_step (by repeat (first | (with_reducible first | exact HB.out | apply below_alloc | apply pw_below_drewN | apply below_drew1) | exact HB.out)) hb); clear HB; have HB := n0_; clear n0_; (try clear hb); (try clear hb2); (try clear hk); (try clear hi)) | (go_at_call 53; (with_reducible refine (phalaroperef03_Norm.calls k a0 t154 _ A17.out).mono ?_); rintro e w26 ⟨rfl, hb⟩; have n0_ := Aside0.mk (below_step (by repeat (first | (with_reducible first | exact HB.out | apply below_alloc | apply pw_below_drewN | apply below_drew1) | exact HB.out)) hb); clear HB; have HB := n0_; clear n0_; (try clear hb); (try clear hb2); (try clear hk); (try clear hi)))
              go_ret
              exact ⟨by first | rfl | (simp [errW_none, errW_some] <;> rfl) | (simp [*, errW_none, errW_some] <;> rfl), by repeat (first | (with_reducible first | exact HB.out | apply below_alloc | apply pw_below_drewN | apply below_drew1) | exact HB.out)⟩
            · rw [if_neg c15] at H
              have c15b0 : (t146 == t148) = false := by simpa using c15
              (try (have c15b1 : decide (t146 = t148) = false := by simpa using c15))
              (try (have c15b2 : (t146 == t148) = false := by simpa using c15))
              (try (have c15b3 : ¬ (t146 = t148) := by simpa using c15))
              clear c15
              obtain rfl := Option.some.inj H
              go_enter Try.func10, Try.ntmps10
              go_wp2_with (first | ((with_reducible refine gate_callee (f := 41) rfl ?_); refine goesL_ (some 8) rfl rfl Try.func41 (by kernel_rfl) rfl #[] rfl (by (try simp only [List.map_toArray, List.map_cons, List.map_nil]); first | done | rfl | (simp only [List.length_drop, List.length_take]; rfl)) ?_; (with_reducible refine (phalaropelaw03_awake.calls  true _ A2.out).mono ?_); rintro e w27 ⟨rfl, hb⟩; refine ⟨_, rfl, ?_⟩; have n0_ := Aside0.mk (below_step (by repeat (first | (with_reducible first | exact HB.out | apply below_alloc | apply pw_below_drewN | apply below_drew1) | exact HB.out)) hb); clear HB; have HB := n0_; clear n0_; (try clear hb); (try clear hb2); (try clear hk); (try clear hi)) | ((with_reducible refine gate_callee (f := 48) rfl ?_); refine goesL_ (some 15) rfl rfl Try.func48 (by kernel_rfl) rfl #[.string a0] rfl (by (try simp only [List.map_toArray, List.map_cons, List.map_nil]); first | done | rfl | (simp only [List.length_drop, List.length_take]; rfl)) ?_; (with_reducible refine (pct_Decode.calls a0 t145 t146 _ A5.out).mono ?_); rintro e w28 ⟨rfl, hb⟩; refine ⟨_, rfl, ?_⟩; have n0_ := Aside0.mk (below_step (by repeat (first | (with_reducible first | exact HB.out | apply below_alloc | apply pw_below_drewN | apply below_drew1) | exact HB.out)) hb); clear HB; have HB := n0_; clear n0_; (try clear hb); (try clear hb2); (try clear hk); (try clear hi)) | ((with_reducible refine gate_callee (f := 49) rfl ?_); refine goesL_ (some 20) rfl rfl Try.func49 (by kernel_rfl) rfl #[.string a0] rfl (by (try simp only [List.map_toArray, List.map_cons, List.map_nil]); first | done | rfl | (simp only [List.length_drop, List.length_take]; rfl)) ?_; (with_reducible refine (phalaroperef03_Decode.calls k a0 t147 t148 _ A6.out).mono ?_); rintro e w29 ⟨rfl, hb⟩; refine ⟨_, rfl, ?_⟩; have n0_ := Aside0.mk (below_step (by repeat (first | (with_reducible first | exact HB.out | apply below_alloc | apply pw_below_drewN | apply below_drew1) | exact HB.out)) hb); clear HB; have HB := n0_; clear n0_; (try clear hb); (try clear hb2); (try clear hk); (try clear hi)) | (go_at_call 50; (with_reducible refine (pct_Encode.calls a0 true t149 _ A8.out).mono ?_); rintro e w30 ⟨rfl, hb⟩; have n0_ := Aside0.mk (below_step (by repeat (first | (with_reducible first | exact HB.out | apply below_alloc | apply pw_below_drewN | apply below_drew1) | exact HB.out)) hb); clear HB; have HB := n0_; clear n0_; (try clear hb); (try clear hb2); (try clear hk); (try clear hi)) | (go_at_call 51; (with_reducible refine (phalaroperef03_Encode.calls k a0 true t150 _ A9.out).mono ?_); rintro e w31 ⟨rfl, hb⟩; have n0_ := Aside0.mk (below_step (by repeat (first | (with_reducible first | exact HB.out | apply below_alloc | apply pw_below_drewN | apply below_drew1) | exact HB.out)) hb); clear HB; have HB := n0_; clear n0_; (try clear hb); (try clear hb2); (try clear hk); (try clear hi)) | (go_at_call 50; (with_reducible refine (pct_Encode.calls a0 false t151 _ A11.out).mono ?_); rintro e w32 ⟨rfl, hb⟩; have n0_ := Aside0.mk (below_step (by repeat (first | (with_reducible first | exact HB.out | apply below_alloc | apply pw_below_drewN | apply below_drew1) | exact HB.out)) hb); clear HB; have HB := n0_; clear n0_; (try clear hb); (try clear hb2); (try clear hk); (try clear hi)) | (go_at_call 51; (with_reducible refine (phalaroperef03_Encode.calls k a0 false t152 _ A12.out).mono ?_); rintro e w33 ⟨rfl, hb⟩; have n0_ := Aside0.mk (below_step (by repeat (first | (with_reducible first | exact HB.out | apply below_alloc | apply pw_below_drewN | apply below_drew1) | exact HB.out)) hb); clear HB; have HB := n0_; clear n0_; (try clear hb); (try clear hb2); (try clear hk); (try clear hi)))
              go_ret
              exact ⟨by first | rfl | (simp [errW_none, errW_some] <;> rfl) | (simp [*, errW_none, errW_some] <;> rfl), by repeat (first | (with_reducible first | exact HB.out | apply below_alloc | apply pw_below_drewN | apply below_drew1) | exact HB.out)⟩
          · rw [if_neg c14] at H
            have c14b0 : (t145.toList == t147.toList) = false := beq_eq_false_iff_ne.mpr c14
            have c14b1 : (t145.toList != t147.toList) = true := bne_iff_ne.mpr c14
            obtain rfl := Option.some.inj H
            go_enter Try.func10, Try.ntmps10
            go_wp2_with (first | ((with_reducible refine gate_callee (f := 41) rfl ?_); refine goesL_ (some 8) rfl rfl Try.func41 (by kernel_rfl) rfl #[] rfl (by (try simp only [List.map_toArray, List.map_cons, List.map_nil]); first | done | rfl | (simp only [List.length_drop, List.length_take]; rfl)) ?_; (with_reducible refine (phalaropelaw03_awake.calls  true _ A2.out).mono ?_); rintro e w34 ⟨rfl, hb⟩; refine ⟨_, rfl, ?_⟩; have n0_ := Aside0.mk (below_step (by repeat (first | (with_reducible first | exact HB.out | apply below_alloc | apply pw_below_drewN | apply below_drew1) | exact HB.out)) hb); clear HB; have HB := n0_; clear n0_; (try clear hb); (try clear hb2); (try clear hk); (try clear hi)) | ((with_reducible refine gate_callee (f := 48) rfl ?_); refine goesL_ (some 15) rfl rfl Try.func48 (by kernel_rfl) rfl #[.string a0] rfl (by (try simp only [List.map_toArray, List.map_cons, List.map_nil]); first | done | rfl | (simp only [List.length_drop, List.length_take]; rfl)) ?_; (with_reducible refine (pct_Decode.calls a0 t145 t146 _ A5.out).mono ?_); rintro e w35 ⟨rfl, hb⟩; refine ⟨_, rfl, ?_⟩; have n0_ := Aside0.mk (below_step (by repeat (first | (with_reducible first | exact HB.out | apply below_alloc | apply pw_below_drewN | apply below_drew1) | exact HB.out)) hb); clear HB; have HB := n0_; clear n0_; (try clear hb); (try clear hb2); (try clear hk); (try clear hi)) | ((with_reducible refine gate_callee (f := 49) rfl ?_); refine goesL_ (some 20) rfl rfl Try.func49 (by kernel_rfl) rfl #[.string a0] rfl (by (try simp only [List.map_toArray, List.map_cons, List.map_nil]); first | done | rfl | (simp only [List.length_drop, List.length_take]; rfl)) ?_; (with_reducible refine (phalaroperef03_Decode.calls k a0 t147 t148 _ A6.out).mono ?_); rintro e w36 ⟨rfl, hb⟩; refine ⟨_, rfl, ?_⟩; have n0_ := Aside0.mk (below_step (by repeat (first | (with_reducible first | exact HB.out | apply below_alloc | apply pw_below_drewN | apply below_drew1) | exact HB.out)) hb); clear HB; have HB := n0_; clear n0_; (try clear hb); (try clear hb2); (try clear hk); (try clear hi)) | (go_at_call 50; (with_reducible refine (pct_Encode.calls a0 true t149 _ A8.out).mono ?_); rintro e w37 ⟨rfl, hb⟩; have n0_ := Aside0.mk (below_step (by repeat (first | (with_reducible first | exact HB.out | apply below_alloc | apply pw_below_drewN | apply below_drew1) | exact HB.out)) hb); clear HB; have HB := n0_; clear n0_; (try clear hb); (try clear hb2); (try clear hk); (try clear hi)) | (go_at_call 51; (with_reducible refine (phalaroperef03_Encode.calls k a0 true t150 _ A9.out).mono ?_); rintro e w38 ⟨rfl, hb⟩; have n0_ := Aside0.mk (below_step (by repeat (first | (with_reducible first | exact HB.out | apply below_alloc | apply pw_below_drewN | apply below_drew1) | exact HB.out)) hb); clear HB; have HB := n0_; clear n0_; (try clear hb); (try clear hb2); (try clear hk); (try clear hi)) | (go_at_call 50; (with_reducible refine (pct_Encode.calls a0 false t151 _ A11.out).mono ?_); rintro e w39 ⟨rfl, hb⟩; have n0_ := Aside0.mk (below_step (by repeat (first | (with_reducible first | exact HB.out | apply below_alloc | apply pw_below_drewN | apply below_drew1) | exact HB.out)) hb); clear HB; have HB := n0_; clear n0_; (try clear hb); (try clear hb2); (try clear hk); (try clear hi)) | (go_at_call 51; (with_reducible refine (phalaroperef03_Encode.calls k a0 false t152 _ A12.out).mono ?_); rintro e w40 ⟨rfl, hb⟩; have n0_ := Aside0.mk (below_step (by repeat (first | (with_reducible first | exact HB.out | apply below_alloc | apply pw_below_drewN | apply below_drew1) | exact HB.out)) hb); clear HB; have HB := n0_; clear n0_; (try clear hb); (try clear hb2); (try clear hk); (try clear hi)))
            go_ret
            exact ⟨by first | rfl | (simp [errW_none, errW_some] <;> rfl) | (simp [*, errW_none, errW_some] <;> rfl), by repeat (first | (with_reducible first | exact HB.out | apply below_alloc | apply pw_below_drewN | apply below_drew1) | exact HB.out)⟩
        · rw [if_neg c13] at H
          have c13b0 : (t151.toList == t152.toList) = false := beq_eq_false_iff_ne.mpr c13
          have c13b1 : (t151.toList != t152.toList) = true := bne_iff_ne.mpr c13
          obtain rfl := Option.some.inj H
          go_enter Try.func10, Try.ntmps10
          go_wp2_with (first | ((with_reducible refine gate_callee (f := 41) rfl ?_); refine goesL_ (some 8) rfl rfl Try.func41 (by kernel_rfl) rfl #[] rfl (by (try simp only [List.map_toArray, List.map_cons, List.map_nil]); first | done | rfl | (simp only [List.length_drop, List.length_take]; rfl)) ?_; (with_reducible refine (phalaropelaw03_awake.calls  true _ A2.out).mono ?_); rintro e w41 ⟨rfl, hb⟩; refine ⟨_, rfl, ?_⟩; have n0_ := Aside0.mk (below_step (by repeat (first | (with_reducible first | exact HB.out | apply below_alloc | apply pw_below_drewN | apply below_drew1) | exact HB.out)) hb); clear HB; have HB := n0_; clear n0_; (try clear hb); (try clear hb2); (try clear hk); (try clear hi)) | ((with_reducible refine gate_callee (f := 48) rfl ?_); refine goesL_ (some 15) rfl rfl Try.func48 (by kernel_rfl) rfl #[.string a0] rfl (by (try simp only [List.map_toArray, List.map_cons, List.map_nil]); first | done | rfl | (simp only [List.length_drop, List.length_take]; rfl)) ?_; (with_reducible refine (pct_Decode.calls a0 t145 t146 _ A5.out).mono ?_); rintro e w42 ⟨rfl, hb⟩; refine ⟨_, rfl, ?_⟩; have n0_ := Aside0.mk (below_step (by repeat (first | (with_reducible first | exact HB.out | apply below_alloc | apply pw_below_drewN | apply below_drew1) | exact HB.out)) hb); clear HB; have HB := n0_; clear n0_; (try clear hb); (try clear hb2); (try clear hk); (try clear hi)) | ((with_reducible refine gate_callee (f := 49) rfl ?_); refine goesL_ (some 20) rfl rfl Try.func49 (by kernel_rfl) rfl #[.string a0] rfl (by (try simp only [List.map_toArray, List.map_cons, List.map_nil]); first | done | rfl | (simp only [List.length_drop, List.length_take]; rfl)) ?_; (with_reducible refine (phalaroperef03_Decode.calls k a0 t147 t148 _ A6.out).mono ?_); rintro e w43 ⟨rfl, hb⟩; refine ⟨_, rfl, ?_⟩; have n0_ := Aside0.mk (below_step (by repeat (first | (with_reducible first | exact HB.out | apply below_alloc | apply pw_below_drewN | apply below_drew1) | exact HB.out)) hb); clear HB; have HB := n0_; clear n0_; (try clear hb); (try clear hb2); (try clear hk); (try clear hi)) | (go_at_call 50; (with_reducible refine (pct_Encode.calls a0 true t149 _ A8.out).mono ?_); rintro e w44 ⟨rfl, hb⟩; have n0_ := Aside0.mk (below_step (by repeat (first | (with_reducible first | exact HB.out | apply below_alloc | apply pw_below_drewN | apply below_drew1) | exact HB.out)) hb); clear HB; have HB := n0_; clear n0_; (try clear hb); (try clear hb2); (try clear hk); (try clear hi)) | (go_at_call 51; (with_reducible refine (phalaroperef03_Encode.calls k a0 true t150 _ A9.out).mono ?_); rintro e w45 ⟨rfl, hb⟩; have n0_ := Aside0.mk (below_step (by repeat (first | (with_reducible first | exact HB.out | apply below_alloc | apply pw_below_drewN | apply below_drew1) | exact HB.out)) hb); clear HB; have HB := n0_; clear n0_; (try clear hb); (try clear hb2); (try clear hk); (try clear hi)) | (go_at_call 50; (with_reducible refine (pct_Encode.calls a0 false t151 _ A11.out).mono ?_); rintro e w46 ⟨rfl, hb⟩; have n0_ := Aside0.mk (below_step (by repeat (first | (with_reducible first | exact HB.out | apply below_alloc | apply pw_below_drewN | apply below_drew1) | exact HB.out)) hb); clear HB; have HB := n0_; clear n0_; (try clear hb); (try clear hb2); (try clear hk); (try clear hi)) | (go_at_call 51; (with_reducible refine (phalaroperef03_Encode.calls k a0 false t152 _ A12.out).mono ?_); rintro e w47 ⟨rfl, hb⟩; have n0_ := Aside0.mk (below_step (by repeat (first | (with_reducible first | exact HB.out | apply below_alloc | apply pw_below_drewN | apply below_drew1) | exact HB.out)) hb); clear HB; have HB := n0_; clear n0_; (try clear hb); (try clear hb2); (try clear hk); (try clear hi)))
          go_ret
          exact ⟨by first | rfl | (simp [errW_none, errW_some] <;> rfl) | (simp [*, errW_none, errW_some] <;> rfl), by repeat (first | (with_reducible first | exact HB.out | apply below_alloc | apply pw_below_drewN | apply below_drew1) | exact HB.out)⟩
      · rw [if_neg c10] at H
        have c10b0 : (t149.toList == t150.toList) = false := beq_eq_false_iff_ne.mpr c10
        have c10b1 : (t149.toList != t150.toList) = true := bne_iff_ne.mpr c10
        obtain rfl := Option.some.inj H
        go_enter Try.func10, Try.ntmps10
        go_wp2_with (first | ((with_reducible refine gate_callee (f := 41) rfl ?_); refine goesL_ (some 8) rfl rfl Try.func41 (by kernel_rfl) rfl #[] rfl (by (try simp only [List.map_toArray, List.map_cons, List.map_nil]); first | done | rfl | (simp only [List.length_drop, List.length_take]; rfl)) ?_; (with_reducible refine (phalaropelaw03_awake.calls  true _ A2.out).mono ?_); rintro e w48 ⟨rfl, hb⟩; refine ⟨_, rfl, ?_⟩; have n0_ := Aside0.mk (below_step (by repeat (first | (with_reducible first | exact HB.out | apply below_alloc | apply pw_below_drewN | apply below_drew1) | exact HB.out)) hb); clear HB; have HB := n0_; clear n0_; (try clear hb); (try clear hb2); (try clear hk); (try clear hi)) | ((with_reducible refine gate_callee (f := 48) rfl ?_); refine goesL_ (some 15) rfl rfl Try.func48 (by kernel_rfl) rfl #[.string a0] rfl (by (try simp only [List.map_toArray, List.map_cons, List.map_nil]); first | done | rfl | (simp only [List.length_drop, List.length_take]; rfl)) ?_; (with_reducible refine (pct_Decode.calls a0 t145 t146 _ A5.out).mono ?_); rintro e w49 ⟨rfl, hb⟩; refine ⟨_, rfl, ?_⟩; have n0_ := Aside0.mk (below_step (by repeat (first | (with_reducible first | exact HB.out | apply below_alloc | apply pw_below_drewN | apply below_drew1) | exact HB.out)) hb); clear HB; have HB := n0_; clear n0_; (try clear hb); (try clear hb2); (try clear hk); (try clear hi)) | ((with_reducible refine gate_callee (f := 49) rfl ?_); refine goesL_ (some 20) rfl rfl Try.func49 (by kernel_rfl) rfl #[.string a0] rfl (by (try simp only [List.map_toArray, List.map_cons, List.map_nil]); first | done | rfl | (simp only [List.length_drop, List.length_take]; rfl)) ?_; (with_reducible refine (phalaroperef03_Decode.calls k a0 t147 t148 _ A6.out).mono ?_); rintro e w50 ⟨rfl, hb⟩; refine ⟨_, rfl, ?_⟩; have n0_ := Aside0.mk (below_step (by repeat (first | (with_reducible first | exact HB.out | apply below_alloc | apply pw_below_drewN | apply below_drew1) | exact HB.out)) hb); clear HB; have HB := n0_; clear n0_; (try clear hb); (try clear hb2); (try clear hk); (try clear hi)) | (go_at_call 50; (with_reducible refine (pct_Encode.calls a0 true t149 _ A8.out).mono ?_); rintro e w51 ⟨rfl, hb⟩; have n0_ := Aside0.mk (below_step (by repeat (first | (with_reducible first | exact HB.out | apply below_alloc | apply pw_below_drewN | apply below_drew1) | exact HB.out)) hb); clear HB; have HB := n0_; clear n0_; (try clear hb); (try clear hb2); (try clear hk); (try clear hi)) | (go_at_call 51; (with_reducible refine (phalaroperef03_Encode.calls k a0 true t150 _ A9.out).mono ?_); rintro e w52 ⟨rfl, hb⟩; have n0_ := Aside0.mk (below_step (by repeat (first | (with_reducible first | exact HB.out | apply below_alloc | apply pw_below_drewN | apply below_drew1) | exact HB.out)) hb); clear HB; have HB := n0_; clear n0_; (try clear hb); (try clear hb2); (try clear hk); (try clear hi)))
        go_ret
        exact ⟨by first | rfl | (simp [errW_none, errW_some] <;> rfl) | (simp [*, errW_none, errW_some] <;> rfl), by repeat (first | (with_reducible first | exact HB.out | apply below_alloc | apply pw_below_drewN | apply below_drew1) | exact HB.out)⟩
    · replace c7 := Bool.eq_false_iff.mpr c7
      subst c7
      have H1 : (some false) = some r := by rw [if_neg (show ¬ (false = true) by decide)] at H; exact H
      clear H
      have H := H1
      clear H1
      obtain rfl := Option.some.inj H
      go_enter Try.func10, Try.ntmps10
      go_wp2_with (first | ((with_reducible refine gate_callee (f := 41) rfl ?_); refine goesL_ (some 8) rfl rfl Try.func41 (by kernel_rfl) rfl #[] rfl (by (try simp only [List.map_toArray, List.map_cons, List.map_nil]); first | done | rfl | (simp only [List.length_drop, List.length_take]; rfl)) ?_; (with_reducible refine (phalaropelaw03_awake.calls  false _ A2.out).mono ?_); rintro e w53 ⟨rfl, hb⟩; refine ⟨_, rfl, ?_⟩; have n0_ := Aside0.mk (below_step (by repeat (first | (with_reducible first | exact HB.out | apply below_alloc | apply pw_below_drewN | apply below_drew1) | exact HB.out)) hb); clear HB; have HB := n0_; clear n0_; (try clear hb); (try clear hb2); (try clear hk); (try clear hi)) | ((with_reducible refine gate_callee (f := 48) rfl ?_); refine goesL_ (some 15) rfl rfl Try.func48 (by kernel_rfl) rfl #[.string a0] rfl (by (try simp only [List.map_toArray, List.map_cons, List.map_nil]); first | done | rfl | (simp only [List.length_drop, List.length_take]; rfl)) ?_; (with_reducible refine (pct_Decode.calls a0 t145 t146 _ A5.out).mono ?_); rintro e w54 ⟨rfl, hb⟩; refine ⟨_, rfl, ?_⟩; have n0_ := Aside0.mk (below_step (by repeat (first | (with_reducible first | exact HB.out | apply below_alloc | apply pw_below_drewN | apply below_drew1) | exact HB.out)) hb); clear HB; have HB := n0_; clear n0_; (try clear hb); (try clear hb2); (try clear hk); (try clear hi)) | ((with_reducible refine gate_callee (f := 49) rfl ?_); refine goesL_ (some 20) rfl rfl Try.func49 (by kernel_rfl) rfl #[.string a0] rfl (by (try simp only [List.map_toArray, List.map_cons, List.map_nil]); first | done | rfl | (simp only [List.length_drop, List.length_take]; rfl)) ?_; (with_reducible refine (phalaroperef03_Decode.calls k a0 t147 t148 _ A6.out).mono ?_); rintro e w55 ⟨rfl, hb⟩; refine ⟨_, rfl, ?_⟩; have n0_ := Aside0.mk (below_step (by repeat (first | (with_reducible first | exact HB.out | apply below_alloc | apply pw_below_drewN | apply below_drew1) | exact HB.out)) hb); clear HB; have HB := n0_; clear n0_; (try clear hb); (try clear hb2); (try clear hk); (try clear hi)))
      go_ret
      exact ⟨by first | rfl | (simp [errW_none, errW_some] <;> rfl) | (simp [*, errW_none, errW_some] <;> rfl), by repeat (first | (with_reducible first | exact HB.out | apply below_alloc | apply pw_below_drewN | apply below_drew1) | exact HB.out)⟩

/-- THE ONE PURE STATEMENT of phalaropelaw03_PctTells: yours. -/
def phalaropelaw03_PctTells.Pure : Prop := ∀ (a0 : ByteArray), a0.size ≤ 140737488351232 → ∃ k, phalaropelaw03_PctTells.f k a0 = some true
theorem phalaropelaw03_PctTells.walk (P : phalaropelaw03_PctTells.Pure) (a0 : ByteArray) (w : World) (w0 : a0.size ≤ 140737488351232) :
    Calls Try.prog 10 #[.string a0] w fun e w' => e = .returned (.bool true) ∧ Below w.heap.size w w' := by
  obtain ⟨k, h⟩ := P a0 w0
  refine (phalaropelaw03_PctTells.calls k a0 true w h).mono ?_
  rintro e w' ⟨rfl, hd⟩
  exact ⟨rfl, hd⟩

end Go.Proofs.Ytmondgamackcgaa.PPct
