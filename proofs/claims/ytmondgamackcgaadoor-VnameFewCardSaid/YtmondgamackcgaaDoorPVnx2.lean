-- PRINTED by print.py (a twelfth state) out of the translation. Not trusted: Lean checks it.
import Derived.Test.YtmondgamackcgaaDoorPVnx0
import Derived.Test.YtmondgamackcgaaDoorPVnx1
namespace Go.Proofs.YtmondgamackcgaaDoor.PVn
open Go.RowKit Go.Proofs.YtmondgamackcgaaDoorW.PrintWords Go.Proofs.YtmondgamackcgaaDoorW.PrintLast Go.Proofs.YtmondgamackcgaaDoorW.PrintMore
attribute [local go_sem] max2_int min2_int max_two min_two max_three min_three max_four min_four   -- for this text's walks alone
set_option linter.unusedVariables false
set_option linter.unusedSimpArgs false

/-! ### phalaropelaw05_VnameFew: function 3 -/
def phalaropelaw05_VnameFew.j0 : Nat → ByteArray → Int → Int → Bool → Bool → Option (Bool)
  | 0, _, _, _, _, _ => none
  | k + 1, x0, x1, x2, x7, x19 => if x19 = true then (some x7) else (if (wrap64 ((x0.size : Int) + 1)) = 0 then (none) else (if 0 ≤ (Int.tmod (wrap64 (x2)) 12) then (if (Int.tmod (wrap64 (x2)) 12) ≤ (wrap64 ((Int.tmod (wrap64 (x2)) 12) + 1)) then (if (wrap64 ((Int.tmod (wrap64 (x2)) 12) + 1)) ≤ 12 then (if x7 = true then (if 0 ≤ (Int.tmod (wrap64 (x1)) (wrap64 ((x0.size : Int) + 1))) then (if (Int.tmod (wrap64 (x1)) (wrap64 ((x0.size : Int) + 1))) ≤ (x0.size : Int) then (if (x0.extract 0 ((Int.tmod (wrap64 (x1)) (wrap64 ((x0.size : Int) + 1))) : Int).toNat).size + ((⟨#[123, 125, 44, 58, 42, 43, 35, 47, 59, 63, 38, 32]⟩ : ByteArray).extract ((Int.tmod (wrap64 (x2)) 12) : Int).toNat ((wrap64 ((Int.tmod (wrap64 (x2)) 12) + 1)) : Int).toNat).size ≤ 9223372036854775807 then (if ((x0.extract 0 ((Int.tmod (wrap64 (x1)) (wrap64 ((x0.size : Int) + 1))) : Int).toNat) ++ ((⟨#[123, 125, 44, 58, 42, 43, 35, 47, 59, 63, 38, 32]⟩ : ByteArray).extract ((Int.tmod (wrap64 (x2)) 12) : Int).toNat ((wrap64 ((Int.tmod (wrap64 (x2)) 12) + 1)) : Int).toNat)).size + (x0.extract ((Int.tmod (wrap64 (x1)) (wrap64 ((x0.size : Int) + 1))) : Int).toNat x0.size).size ≤ 9223372036854775807 then ((vname_May.f (((x0.extract 0 ((Int.tmod (wrap64 (x1)) (wrap64 ((x0.size : Int) + 1))) : Int).toNat) ++ ((⟨#[123, 125, 44, 58, 42, 43, 35, 47, 59, 63, 38, 32]⟩ : ByteArray).extract ((Int.tmod (wrap64 (x2)) 12) : Int).toNat ((wrap64 ((Int.tmod (wrap64 (x2)) 12) + 1)) : Int).toNat)) ++ (x0.extract ((Int.tmod (wrap64 (x1)) (wrap64 ((x0.size : Int) + 1))) : Int).toNat x0.size))).bind fun t120 => (if t120 = true then (some false) else (if x0.size + ((⟨#[123, 125, 44, 58, 42, 43, 35, 47, 59, 63, 38, 32]⟩ : ByteArray).extract ((Int.tmod (wrap64 (x2)) 12) : Int).toNat ((wrap64 ((Int.tmod (wrap64 (x2)) 12) + 1)) : Int).toNat).size ≤ 9223372036854775807 then ((vname_End.f (x0 ++ ((⟨#[123, 125, 44, 58, 42, 43, 35, 47, 59, 63, 38, 32]⟩ : ByteArray).extract ((Int.tmod (wrap64 (x2)) 12) : Int).toNat ((wrap64 ((Int.tmod (wrap64 (x2)) 12) + 1)) : Int).toNat))).bind fun t121 => (some (t121 == (x0.size : Int)))) else (none)))) else (none)) else (none)) else (none)) else (none)) else (some false)) else (none)) else (none)) else (none)))
def phalaropelaw05_VnameFew.f (k : Nat) (a0 : ByteArray) (a1 : Int) (a2 : Int) : Option (Bool) := (phalaropelaw05_awake.f).bind fun t118 => (if (a0.size : Int) > 200 then (phalaropelaw05_VnameFew.j0 k a0 a1 a2 t118 true) else ((vname_May.f a0).bind fun t119 => (phalaropelaw05_VnameFew.j0 k a0 a1 a2 t118 (!t119))))
theorem phalaropelaw05_VnameFew.mono_l : ∀ k, (∀ y0 y1 y2 y3 y4, LeO (phalaropelaw05_VnameFew.j0 k y0 y1 y2 y3 y4) (phalaropelaw05_VnameFew.j0 (k + 1) y0 y1 y2 y3 y4))
  | 0 => fun _ _ _ _ _ r h => by simp [phalaropelaw05_VnameFew.j0] at h
  | k + 1 => by
    have ih0 := phalaropelaw05_VnameFew.mono_l k
    · intro y0 y1 y2 y3 y4
      unfold phalaropelaw05_VnameFew.j0
      repeat' first
      | (with_reducible exact ih0 _ _ _ _ _)
      | (with_reducible exact LeO.refl _)
      | (with_reducible exact LeO.none _)
      | (with_reducible refine LeO.ite ?_ ?_)
      | (with_reducible refine LeO.bind ?_ (fun _ => ?_))
      | exact ih0 _ _ _ _ _
      | exact LeO.none _
      | refine LeO.ite ?_ ?_
      | refine LeO.bind ?_ (fun _ => ?_)
theorem phalaropelaw05_VnameFew.mono : ∀ a0 a1 a2 k, LeO (phalaropelaw05_VnameFew.f k a0 a1 a2) (phalaropelaw05_VnameFew.f (k + 1) a0 a1 a2) := by
  intro a0 a1 a2 k
  have ih0 := phalaropelaw05_VnameFew.mono_l k
  unfold phalaropelaw05_VnameFew.f
  repeat' first
      | (with_reducible exact ih0 _ _ _ _ _)
      | (with_reducible exact LeO.refl _)
      | (with_reducible exact LeO.none _)
      | (with_reducible refine LeO.ite ?_ ?_)
      | (with_reducible refine LeO.bind ?_ (fun _ => ?_))
      | exact ih0 _ _ _ _ _
      | exact LeO.none _
      | refine LeO.ite ?_ ?_
      | refine LeO.bind ?_ (fun _ => ?_)
def phalaropelaw05_VnameFew.T6 : Bool × List (List Nat × List Nat) := (true, [([], []), ([], []), ([1], [1]), ([], []), ([3], [3]), ([2, 4], [2, 4]), ([], []), ([6], [6]), ([], []), ([8], [8]), ([7, 9], [7, 9]), ([10], [10]), ([0, 5, 11], [0, 5, 11]), ([12, 0, 1, 2, 3, 4, 5, 6, 7, 8, 9, 10, 11, 12], [12])])
def phalaropelaw05_VnameFew.B6 : List Nat := [0, 0, 2, 0, 8, 30, 0, 64, 0, 256, 960, 1984, 4095, 8191]
theorem phalaropelaw05_VnameFew.tab6 : rtab .any (opsOf Tryd.f3 6) = phalaropelaw05_VnameFew.T6 := by kernel_rfl
theorem phalaropelaw05_VnameFew.bits6 : waitsOk phalaropelaw05_VnameFew.T6.2 phalaropelaw05_VnameFew.B6 = true := by kernel_rfl
def phalaropelaw05_VnameFew.T7 : Bool × List (List Nat × List Nat) := (true, [([], []), ([0], [0]), ([1], [1]), ([1], [1]), ([2, 3, 1], [1, 2, 3]), ([1], [1]), ([4, 5, 1], [1, 4, 5]), ([1], [1]), ([1], [1]), ([7, 8, 1], [1, 7, 8]), ([6, 9, 1], [1, 6, 9]), ([10, 1, 1], [1, 10]), ([11, 1], [1, 11]), ([1, 12], [1, 12]), ([13, 11], [13]), ([14], [14]), ([14], [14]), ([15, 16, 14], [14, 15, 16]), ([17, 14, 14], [14, 17]), ([14], [14]), ([19, 14], [14, 19]), ([18, 20, 14], [14, 18, 20]), ([14, 21], [14, 21]), ([22, 18, 0, 1, 2, 3, 4, 5, 6, 7, 8, 9, 10, 11, 12, 13, 14, 15, 16, 17, 18, 19, 20, 21, 22], [22])])
def phalaropelaw05_VnameFew.B7 : List Nat := [0, 1, 3, 3, 15, 3, 63, 3, 3, 387, 1023, 2047, 4095, 8191, 16383, 32767, 32767, 131071, 262143, 32767, 557055, 2097151, 4194303, 8388607]
theorem phalaropelaw05_VnameFew.tab7 : rtab .any (opsOf Tryd.f3 7) = phalaropelaw05_VnameFew.T7 := by kernel_rfl
theorem phalaropelaw05_VnameFew.bits7 : waitsOk phalaropelaw05_VnameFew.T7.2 phalaropelaw05_VnameFew.B7 = true := by kernel_rfl
set_option maxHeartbeats 8000000 in
set_option maxRecDepth 100000 in
theorem phalaropelaw05_VnameFew.calls (k : Nat) (a0 : ByteArray) (a1 : Int) (a2 : Int) (r : Bool) (w : World) (h : phalaropelaw05_VnameFew.f k a0 a1 a2 = some r) :
    Calls Tryd.prog 3 #[.string a0, .int .u8 a1, .int .u8 a2] w fun e w' => e = .returned (.bool r) ∧ Below w.heap.size w w' := by
  have HB := Aside0.mk (Below.refl w.heap.size w)
  have H : ((phalaropelaw05_awake.f).bind fun t118 => (if (a0.size : Int) > 200 then (phalaropelaw05_VnameFew.j0 k a0 a1 a2 t118 true) else ((vname_May.f a0).bind fun t119 => (phalaropelaw05_VnameFew.j0 k a0 a1 a2 t118 (!t119))))) = some r := h
  clear h
  replace H := Option.bind_eq_some_iff.mp H
  obtain ⟨t118, A40, H⟩ := H
  replace H : (if (a0.size : Int) > 200 then (phalaropelaw05_VnameFew.j0 k a0 a1 a2 t118 true) else ((vname_May.f a0).bind fun t119 => (phalaropelaw05_VnameFew.j0 k a0 a1 a2 t118 (!t119)))) = some r := H
  have A4 := Aside0.mk A40
  clear A40
  have HC5 := Aside0.mk H
  clear H
  go_enter Tryd.func3, Tryd.ntmps3
  go_upto_region 2 with (first | ((with_reducible refine gate_callee (f := 9) rfl ?_); refine goesL_ (some 11) rfl rfl Tryd.func9 (by kernel_rfl) rfl #[] rfl (by (try simp only [List.map_toArray, List.map_cons, List.map_nil]); first | done | rfl | (simp only [List.length_drop, List.length_take]; rfl)) ?_; (with_reducible refine (phalaropelaw05_awake.calls  t118 _ A4.out).mono ?_); rintro e w6 ⟨rfl, hb⟩; refine ⟨_, rfl, ?_⟩; have n0_ := Aside0.mk (below_step (by repeat (first | (with_reducible first | exact HB.out | apply below_alloc | apply pw_below_drewN | apply below_drew1) | exact HB.out)) hb); clear HB; have HB := n0_; clear n0_; (try clear hb); (try clear hb2); (try clear hk); (try clear hi)))
  (try simp only [Act.put, List.setIfInBounds_toArray, List.set_cons_zero, List.set_cons_succ])
  go_cut [19] (fun v19 wc => ∃ (kq : Nat) (x19_4 : Bool), v19 = .bool x19_4 ∧ Aside0 (phalaropelaw05_VnameFew.j0 kq a0 a1 a2 t118 x19_4 = some r) ∧ Aside0 (kq ≤ k) ∧ Aside0 (Below w.heap.size w wc))
  case first =>
    have H := HC5.out
    clear HC5
    by_cases c7 : (a0.size : Int) > 200
    · rw [if_pos c7] at H
      have c7b0 : decide (200 < (a0.size : Int)) = true := decide_eq_true c7
      have c7b1 : decide (200 < a0.size) = true := decide_eq_true (by omega)
      clear c7
      (first | rw [c7b0] | (simp only [i64_w, i32_w]; rw [c7b0]) | skip)
      have H' := Aside0.mk H
      clear H
      go_wp2
      go_meet
      case rel => exact ⟨_, (true), (by first | rfl | (simp; done) | (simp [*]; done)), H', ⟨by first | omega | exact Nat.le_refl _⟩, ⟨by repeat (first | (with_reducible first | exact HB.out | apply below_alloc | apply pw_below_drewN | apply below_drew1) | exact HB.out)⟩⟩
    · rw [if_neg c7] at H
      have c7b0 : decide (200 < (a0.size : Int)) = false := decide_eq_false c7
      have c7b1 : decide (200 < a0.size) = false := decide_eq_false (by omega)
      clear c7
      (first | rw [c7b0] | (simp only [i64_w, i32_w]; rw [c7b0]) | skip)
      replace H := Option.bind_eq_some_iff.mp H
      obtain ⟨t119, A80, H⟩ := H
      replace H : (phalaropelaw05_VnameFew.j0 k a0 a1 a2 t118 (!t119)) = some r := H
      have A8 := Aside0.mk A80
      clear A80
      have H' := Aside0.mk H
      clear H
      go_wp2_with (first | (go_at_call 10; (with_reducible refine (vname_May.calls a0 t119 _ A8.out).mono ?_); rintro e w9 ⟨rfl, hb⟩; have n0_ := Aside0.mk (below_step (by repeat (first | (with_reducible first | exact HB.out | apply below_alloc | apply pw_below_drewN | apply below_drew1) | exact HB.out)) hb); clear HB; have HB := n0_; clear n0_; (try clear hb); (try clear hb2); (try clear hk); (try clear hi)))
      go_meet
      case rel => exact ⟨_, (!t119), (by first | rfl | (simp; done) | (simp [*]; done)), H', ⟨by first | omega | exact Nat.le_refl _⟩, ⟨by repeat (first | (with_reducible first | exact HB.out | apply below_alloc | apply pw_below_drewN | apply below_drew1) | exact HB.out)⟩⟩
  case rest =>
    clear HC5
    try clear p2
    try clear c3
    try clear c7
    try clear c7b0
    try clear c7b1
    try clear c9
    obtain ⟨kq, x19_4, rfl, HA, HJ4, HB⟩ := hcut
    cases kq with
    | zero => exact absurd HA.out (by simp [phalaropelaw05_VnameFew.j0])
    | succ kj4 =>
      have H := HA.out
      clear HA
      simp only [phalaropelaw05_VnameFew.j0] at H
      by_cases c10 : x19_4 = true
      · subst c10
        have H1 : (some t118) = some r := by rw [if_pos rfl] at H; exact H
        clear H
        have H := H1
        clear H1
        obtain rfl := Option.some.inj H
        go_wp2
        go_ret
        exact ⟨by first | rfl | (simp [errW_none, errW_some] <;> rfl) | (simp [*, errW_none, errW_some] <;> rfl), by repeat (first | (with_reducible first | exact HB.out | apply below_alloc | apply pw_below_drewN | apply below_drew1) | exact HB.out)⟩
      · replace c10 := Bool.eq_false_iff.mpr c10
        subst c10
        have H1 : (if (wrap64 ((a0.size : Int) + 1)) = 0 then (none) else (if 0 ≤ (Int.tmod (wrap64 (a2)) 12) then (if (Int.tmod (wrap64 (a2)) 12) ≤ (wrap64 ((Int.tmod (wrap64 (a2)) 12) + 1)) then (if (wrap64 ((Int.tmod (wrap64 (a2)) 12) + 1)) ≤ 12 then (if t118 = true then (if 0 ≤ (Int.tmod (wrap64 (a1)) (wrap64 ((a0.size : Int) + 1))) then (if (Int.tmod (wrap64 (a1)) (wrap64 ((a0.size : Int) + 1))) ≤ (a0.size : Int) then (if (a0.extract 0 ((Int.tmod (wrap64 (a1)) (wrap64 ((a0.size : Int) + 1))) : Int).toNat).size + ((⟨#[123, 125, 44, 58, 42, 43, 35, 47, 59, 63, 38, 32]⟩ : ByteArray).extract ((Int.tmod (wrap64 (a2)) 12) : Int).toNat ((wrap64 ((Int.tmod (wrap64 (a2)) 12) + 1)) : Int).toNat).size ≤ 9223372036854775807 then (if ((a0.extract 0 ((Int.tmod (wrap64 (a1)) (wrap64 ((a0.size : Int) + 1))) : Int).toNat) ++ ((⟨#[123, 125, 44, 58, 42, 43, 35, 47, 59, 63, 38, 32]⟩ : ByteArray).extract ((Int.tmod (wrap64 (a2)) 12) : Int).toNat ((wrap64 ((Int.tmod (wrap64 (a2)) 12) + 1)) : Int).toNat)).size + (a0.extract ((Int.tmod (wrap64 (a1)) (wrap64 ((a0.size : Int) + 1))) : Int).toNat a0.size).size ≤ 9223372036854775807 then ((vname_May.f (((a0.extract 0 ((Int.tmod (wrap64 (a1)) (wrap64 ((a0.size : Int) + 1))) : Int).toNat) ++ ((⟨#[123, 125, 44, 58, 42, 43, 35, 47, 59, 63, 38, 32]⟩ : ByteArray).extract ((Int.tmod (wrap64 (a2)) 12) : Int).toNat ((wrap64 ((Int.tmod (wrap64 (a2)) 12) + 1)) : Int).toNat)) ++ (a0.extract ((Int.tmod (wrap64 (a1)) (wrap64 ((a0.size : Int) + 1))) : Int).toNat a0.size))).bind fun t120 => (if t120 = true then (some false) else (if a0.size + ((⟨#[123, 125, 44, 58, 42, 43, 35, 47, 59, 63, 38, 32]⟩ : ByteArray).extract ((Int.tmod (wrap64 (a2)) 12) : Int).toNat ((wrap64 ((Int.tmod (wrap64 (a2)) 12) + 1)) : Int).toNat).size ≤ 9223372036854775807 then ((vname_End.f (a0 ++ ((⟨#[123, 125, 44, 58, 42, 43, 35, 47, 59, 63, 38, 32]⟩ : ByteArray).extract ((Int.tmod (wrap64 (a2)) 12) : Int).toNat ((wrap64 ((Int.tmod (wrap64 (a2)) 12) + 1)) : Int).toNat))).bind fun t121 => (some (t121 == (a0.size : Int)))) else (none)))) else (none)) else (none)) else (none)) else (none)) else (some false)) else (none)) else (none)) else (none))) = some r := by rw [if_neg (show ¬ (false = true) by decide)] at H; exact H
        clear H
        have H := H1
        clear H1
        by_cases c11 : (wrap64 ((a0.size : Int) + 1)) = 0
        · rw [if_pos c11] at H
          exact absurd H (by simp)
        · rw [if_neg c11] at H
          have c11b0 : ((wrap64 ((a0.size : Int) + 1)) == 0) = false := beq_eq_false_iff_ne.mpr c11
          have c11b1 : ((wrap64 ((a0.size : Int) + 1)) != 0) = true := bne_iff_ne.mpr c11
          obtain ⟨ji12, hji12⟩ : ∃ j_ : Int, (Int.tmod (wrap64 (a2)) 12) = j_ := ⟨_, rfl⟩
          replace H : (if 0 ≤ (ji12) then (if (ji12) ≤ (wrap64 ((ji12) + 1)) then (if (wrap64 ((ji12) + 1)) ≤ 12 then (if t118 = true then (if 0 ≤ (Int.tmod (wrap64 (a1)) (wrap64 ((a0.size : Int) + 1))) then (if (Int.tmod (wrap64 (a1)) (wrap64 ((a0.size : Int) + 1))) ≤ (a0.size : Int) then (if (a0.extract 0 ((Int.tmod (wrap64 (a1)) (wrap64 ((a0.size : Int) + 1))) : Int).toNat).size + ((⟨#[123, 125, 44, 58, 42, 43, 35, 47, 59, 63, 38, 32]⟩ : ByteArray).extract ((ji12) : Int).toNat ((wrap64 ((ji12) + 1)) : Int).toNat).size ≤ 9223372036854775807 then (if ((a0.extract 0 ((Int.tmod (wrap64 (a1)) (wrap64 ((a0.size : Int) + 1))) : Int).toNat) ++ ((⟨#[123, 125, 44, 58, 42, 43, 35, 47, 59, 63, 38, 32]⟩ : ByteArray).extract ((ji12) : Int).toNat ((wrap64 ((ji12) + 1)) : Int).toNat)).size + (a0.extract ((Int.tmod (wrap64 (a1)) (wrap64 ((a0.size : Int) + 1))) : Int).toNat a0.size).size ≤ 9223372036854775807 then ((vname_May.f (((a0.extract 0 ((Int.tmod (wrap64 (a1)) (wrap64 ((a0.size : Int) + 1))) : Int).toNat) ++ ((⟨#[123, 125, 44, 58, 42, 43, 35, 47, 59, 63, 38, 32]⟩ : ByteArray).extract ((ji12) : Int).toNat ((wrap64 ((ji12) + 1)) : Int).toNat)) ++ (a0.extract ((Int.tmod (wrap64 (a1)) (wrap64 ((a0.size : Int) + 1))) : Int).toNat a0.size))).bind fun t120 => (if t120 = true then (some false) else (if a0.size + ((⟨#[123, 125, 44, 58, 42, 43, 35, 47, 59, 63, 38, 32]⟩ : ByteArray).extract ((ji12) : Int).toNat ((wrap64 ((ji12) + 1)) : Int).toNat).size ≤ 9223372036854775807 then ((vname_End.f (a0 ++ ((⟨#[123, 125, 44, 58, 42, 43, 35, 47, 59, 63, 38, 32]⟩ : ByteArray).extract ((ji12) : Int).toNat ((wrap64 ((ji12) + 1)) : Int).toNat))).bind fun t121 => (some (t121 == (a0.size : Int)))) else (none)))) else (none)) else (none)) else (none)) else (none)) else (some false)) else (none)) else (none)) else (none)) = some r := by first | (rw [hji12] at H; exact H) | (simp only [hji12] at H ⊢; exact H)
          by_cases c13 : 0 ≤ (ji12)
          · rw [if_pos c13] at H
            have c13b0 := eq_true c13
            have c13b1 : decide (0 ≤ (ji12)) = true := decide_eq_true c13
            clear c13
            by_cases c14 : (ji12) ≤ (wrap64 ((ji12) + 1))
            · rw [if_pos c14] at H
              have c14b0 := eq_true c14
              have c14b1 : decide ((ji12) ≤ (wrap64 ((ji12) + 1))) = true := decide_eq_true c14
              by_cases c15 : (wrap64 ((ji12) + 1)) ≤ 12
              · rw [if_pos c15] at H
                have c15b0 := eq_true c15
                have c15b1 : decide ((wrap64 ((ji12) + 1)) ≤ 12) = true := decide_eq_true c15
                by_cases c16 : t118 = true
                · subst c16
                  have H1 : (if 0 ≤ (Int.tmod (wrap64 (a1)) (wrap64 ((a0.size : Int) + 1))) then (if (Int.tmod (wrap64 (a1)) (wrap64 ((a0.size : Int) + 1))) ≤ (a0.size : Int) then (if (a0.extract 0 ((Int.tmod (wrap64 (a1)) (wrap64 ((a0.size : Int) + 1))) : Int).toNat).size + ((⟨#[123, 125, 44, 58, 42, 43, 35, 47, 59, 63, 38, 32]⟩ : ByteArray).extract ((ji12) : Int).toNat ((wrap64 ((ji12) + 1)) : Int).toNat).size ≤ 9223372036854775807 then (if ((a0.extract 0 ((Int.tmod (wrap64 (a1)) (wrap64 ((a0.size : Int) + 1))) : Int).toNat) ++ ((⟨#[123, 125, 44, 58, 42, 43, 35, 47, 59, 63, 38, 32]⟩ : ByteArray).extract ((ji12) : Int).toNat ((wrap64 ((ji12) + 1)) : Int).toNat)).size + (a0.extract ((Int.tmod (wrap64 (a1)) (wrap64 ((a0.size : Int) + 1))) : Int).toNat a0.size).size ≤ 9223372036854775807 then ((vname_May.f (((a0.extract 0 ((Int.tmod (wrap64 (a1)) (wrap64 ((a0.size : Int) + 1))) : Int).toNat) ++ ((⟨#[123, 125, 44, 58, 42, 43, 35, 47, 59, 63, 38, 32]⟩ : ByteArray).extract ((ji12) : Int).toNat ((wrap64 ((ji12) + 1)) : Int).toNat)) ++ (a0.extract ((Int.tmod (wrap64 (a1)) (wrap64 ((a0.size : Int) + 1))) : Int).toNat a0.size))).bind fun t120 => (if t120 = true then (some false) else (if a0.size + ((⟨#[123, 125, 44, 58, 42, 43, 35, 47, 59, 63, 38, 32]⟩ : ByteArray).extract ((ji12) : Int).toNat ((wrap64 ((ji12) + 1)) : Int).toNat).size ≤ 9223372036854775807 then ((vname_End.f (a0 ++ ((⟨#[123, 125, 44, 58, 42, 43, 35, 47, 59, 63, 38, 32]⟩ : ByteArray).extract ((ji12) : Int).toNat ((wrap64 ((ji12) + 1)) : Int).toNat))).bind fun t121 => (some (t121 == (a0.size : Int)))) else (none)))) else (none)) else (none)) else (none)) else (none)) = some r := by rw [if_pos rfl] at H; exact H
                  clear H
                  have H := H1
                  clear H1
                  obtain ⟨ji17, hji17⟩ : ∃ j_ : Int, (Int.tmod (wrap64 (a1)) (wrap64 ((a0.size : Int) + 1))) = j_ := ⟨_, rfl⟩
                  replace H : (if 0 ≤ (ji17) then (if (ji17) ≤ (a0.size : Int) then (if (a0.extract 0 ((ji17) : Int).toNat).size + ((⟨#[123, 125, 44, 58, 42, 43, 35, 47, 59, 63, 38, 32]⟩ : ByteArray).extract ((ji12) : Int).toNat ((wrap64 ((ji12) + 1)) : Int).toNat).size ≤ 9223372036854775807 then (if ((a0.extract 0 ((ji17) : Int).toNat) ++ ((⟨#[123, 125, 44, 58, 42, 43, 35, 47, 59, 63, 38, 32]⟩ : ByteArray).extract ((ji12) : Int).toNat ((wrap64 ((ji12) + 1)) : Int).toNat)).size + (a0.extract ((ji17) : Int).toNat a0.size).size ≤ 9223372036854775807 then ((vname_May.f (((a0.extract 0 ((ji17) : Int).toNat) ++ ((⟨#[123, 125, 44, 58, 42, 43, 35, 47, 59, 63, 38, 32]⟩ : ByteArray).extract ((ji12) : Int).toNat ((wrap64 ((ji12) + 1)) : Int).toNat)) ++ (a0.extract ((ji17) : Int).toNat a0.size))).bind fun t120 => (if t120 = true then (some false) else (if a0.size + ((⟨#[123, 125, 44, 58, 42, 43, 35, 47, 59, 63, 38, 32]⟩ : ByteArray).extract ((ji12) : Int).toNat ((wrap64 ((ji12) + 1)) : Int).toNat).size ≤ 9223372036854775807 then ((vname_End.f (a0 ++ ((⟨#[123, 125, 44, 58, 42, 43, 35, 47, 59, 63, 38, 32]⟩ : ByteArray).extract ((ji12) : Int).toNat ((wrap64 ((ji12) + 1)) : Int).toNat))).bind fun t121 => (some (t121 == (a0.size : Int)))) else (none)))) else (none)) else (none)) else (none)) else (none)) = some r := by first | (rw [hji17] at H; exact H) | (simp only [hji17] at H ⊢; exact H)
                  by_cases c18 : 0 ≤ (ji17)
                  · rw [if_pos c18] at H
                    have c18b0 := eq_true c18
                    have c18b1 : decide (0 ≤ (ji17)) = true := decide_eq_true c18
                    clear c18
                    by_cases c19 : (ji17) ≤ (a0.size : Int)
                    · rw [if_pos c19] at H
                      have c19b0 := eq_true c19
                      have c19b1 : decide ((ji17) ≤ (a0.size : Int)) = true := decide_eq_true c19
                      clear c19
                      by_cases c20 : (a0.extract 0 ((ji17) : Int).toNat).size + ((⟨#[123, 125, 44, 58, 42, 43, 35, 47, 59, 63, 38, 32]⟩ : ByteArray).extract ((ji12) : Int).toNat ((wrap64 ((ji12) + 1)) : Int).toNat).size ≤ 9223372036854775807
                      · rw [if_pos c20] at H
                        have c20b0 := eq_true c20
                        have c20b1 : decide ((a0.extract 0 ((ji17) : Int).toNat).size + ((⟨#[123, 125, 44, 58, 42, 43, 35, 47, 59, 63, 38, 32]⟩ : ByteArray).extract ((ji12) : Int).toNat ((wrap64 ((ji12) + 1)) : Int).toNat).size ≤ 9223372036854775807) = true := decide_eq_true c20
                        try have c20b2 : (9223372036854775807 < (a0.extract 0 ((ji17) : Int).toNat).size + ((⟨#[123, 125, 44, 58, 42, 43, 35, 47, 59, 63, 38, 32]⟩ : ByteArray).extract ((ji12) : Int).toNat ((wrap64 ((ji12) + 1)) : Int).toNat).size) = False := eq_false (Nat.not_lt.2 c20)
                        have c21b0 := eq_true (of_decide_eq_true (by first | (with_reducible assumption) | assumption) : 0 ≤ (ji17))
                        have c22b0 := eq_true (of_decide_eq_true (by first | (with_reducible assumption) | assumption) : (ji17) ≤ (a0.size : Int))
                        by_cases c23 : ((a0.extract 0 ((ji17) : Int).toNat) ++ ((⟨#[123, 125, 44, 58, 42, 43, 35, 47, 59, 63, 38, 32]⟩ : ByteArray).extract ((ji12) : Int).toNat ((wrap64 ((ji12) + 1)) : Int).toNat)).size + (a0.extract ((ji17) : Int).toNat a0.size).size ≤ 9223372036854775807
                        · rw [if_pos c23] at H
                          have c23b0 := eq_true c23
                          have c23b1 : decide (((a0.extract 0 ((ji17) : Int).toNat) ++ ((⟨#[123, 125, 44, 58, 42, 43, 35, 47, 59, 63, 38, 32]⟩ : ByteArray).extract ((ji12) : Int).toNat ((wrap64 ((ji12) + 1)) : Int).toNat)).size + (a0.extract ((ji17) : Int).toNat a0.size).size ≤ 9223372036854775807) = true := decide_eq_true c23
                          try have c23b2 : (9223372036854775807 < ((a0.extract 0 ((ji17) : Int).toNat) ++ ((⟨#[123, 125, 44, 58, 42, 43, 35, 47, 59, 63, 38, 32]⟩ : ByteArray).extract ((ji12) : Int).toNat ((wrap64 ((ji12) + 1)) : Int).toNat)).size + (a0.extract ((ji17) : Int).toNat a0.size).size) = False := eq_false (Nat.not_lt.2 c23)
                          replace H := Option.bind_eq_some_iff.mp H
                          obtain ⟨t120, A240, H⟩ := H
                          replace H : (if t120 = true then (some false) else (if a0.size + ((⟨#[123, 125, 44, 58, 42, 43, 35, 47, 59, 63, 38, 32]⟩ : ByteArray).extract ((ji12) : Int).toNat ((wrap64 ((ji12) + 1)) : Int).toNat).size ≤ 9223372036854775807 then ((vname_End.f (a0 ++ ((⟨#[123, 125, 44, 58, 42, 43, 35, 47, 59, 63, 38, 32]⟩ : ByteArray).extract ((ji12) : Int).toNat ((wrap64 ((ji12) + 1)) : Int).toNat))).bind fun t121 => (some (t121 == (a0.size : Int)))) else (none))) = some r := H
                          have A24 := Aside0.mk A240
                          clear A240
                          by_cases c25 : t120 = true
                          · subst c25
                            have H1 : (some false) = some r := by rw [if_pos rfl] at H; exact H
                            clear H
                            have H := H1
                            clear H1
                            obtain rfl := Option.some.inj H
                            try go_wp2
                            have n0_ := Aside0.mk (below_drew1 HB.out)
                            clear HB
                            have HB := n0_
                            clear n0_
                            refine start_ (n := 14) (S := fun w' => True) (ds := []) #[false, false, false, false, false, false, false, false, false, false, false, false, false, false] (by kernel_rfl) rfl rfl trivial (fun hHeld => ?_); refine with_tabW phalaropelaw05_VnameFew.tab6 phalaropelaw05_VnameFew.bits6 (fun HT_ HW_ => ?_)
                            generalize wc.drew = w26 at HB hHeld ⊢
                            refine pure_ (i := 0) (N := some 27) (v := ?_) (a' := ?_) #[true, false, false, false, false, false, false, false, false, false, false, false, false, false] rfl rfl (any_of HT_.out (by kernel_rfl)) (fun _ _ _ h => h) (Or.inl ⟨by rfl, ?_⟩) ?_ ?_
                            rotate_left
                            · intro w'
                              go_simp
                              first | with_reducible rfl | (rw [if_neg (by have hq_ : (⟨#[123, 125, 44, 58, 42, 43, 35, 47, 59, 63, 38, 32]⟩ : ByteArray).size = 12 := rfl; simp only [ByteArray.size_append, ByteArray.size_extract, decide_eq_true_eq, Nat.min_self] at *; omega)] <;> try with_reducible rfl)
                            rotate_left
                            · simp only [Act.put, List.setIfInBounds_toArray, List.set_cons_zero, List.set_cons_succ, i64_w, i32_w]
                              rfl
                            refine pure_ (i := 1) (N := some 28) (v := ?_) (a' := ?_) #[true, true, false, false, false, false, false, false, false, false, false, false, false, false] rfl rfl (any_of HT_.out (by kernel_rfl)) (fun _ _ _ h => h) (Or.inl ⟨by rfl, ?_⟩) ?_ ?_
                            rotate_left
                            · intro w'
                              go_simp
                              first | with_reducible rfl | (rw [if_neg (by have hq_ : (⟨#[123, 125, 44, 58, 42, 43, 35, 47, 59, 63, 38, 32]⟩ : ByteArray).size = 12 := rfl; simp only [ByteArray.size_append, ByteArray.size_extract, decide_eq_true_eq, Nat.min_self] at *; omega)] <;> try with_reducible rfl)
                            rotate_left
                            · simp only [Act.put, List.setIfInBounds_toArray, List.set_cons_zero, List.set_cons_succ, i64_w, i32_w]
                              rfl
                            refine pure_ (i := 2) (N := some 29) (v := ?_) (a' := ?_) #[true, true, true, false, false, false, false, false, false, false, false, false, false, false] rfl rfl (any_of HT_.out (by kernel_rfl)) (fun _ _ _ h => h) (Or.inl ⟨by rfl, ?_⟩) ?_ ?_
                            rotate_left
                            · intro w'
                              go_simp
                              first | with_reducible rfl | (rw [if_neg (by have hq_ : (⟨#[123, 125, 44, 58, 42, 43, 35, 47, 59, 63, 38, 32]⟩ : ByteArray).size = 12 := rfl; simp only [ByteArray.size_append, ByteArray.size_extract, decide_eq_true_eq, Nat.min_self] at *; omega)] <;> try with_reducible rfl)
                            rotate_left
                            · simp only [Act.put, List.setIfInBounds_toArray, List.set_cons_zero, List.set_cons_succ, i64_w, i32_w]
                              rfl
                            refine pure_ (i := 3) (N := some 30) (v := ?_) (a' := ?_) #[true, true, true, true, false, false, false, false, false, false, false, false, false, false] rfl rfl (any_of HT_.out (by kernel_rfl)) (fun _ _ _ h => h) (Or.inl ⟨by rfl, ?_⟩) ?_ ?_
                            rotate_left
                            · intro w'
                              go_simp
                              first | with_reducible rfl | (rw [if_neg (by have hq_ : (⟨#[123, 125, 44, 58, 42, 43, 35, 47, 59, 63, 38, 32]⟩ : ByteArray).size = 12 := rfl; simp only [ByteArray.size_append, ByteArray.size_extract, decide_eq_true_eq, Nat.min_self] at *; omega)] <;> try with_reducible rfl)
                            rotate_left
                            · simp only [Act.put, List.setIfInBounds_toArray, List.set_cons_zero, List.set_cons_succ, i64_w, i32_w]
                              rfl
                            refine pure_ (i := 4) (N := some 31) (v := ?_) (a' := ?_) #[true, true, true, true, true, false, false, false, false, false, false, false, false, false] rfl rfl (any_of HT_.out (by kernel_rfl)) (fun _ _ _ h => h) (Or.inl ⟨by rfl, ?_⟩) ?_ ?_
                            rotate_left
                            · intro w'
                              go_simp
                              first | with_reducible rfl | (rw [if_neg (by have hq_ : (⟨#[123, 125, 44, 58, 42, 43, 35, 47, 59, 63, 38, 32]⟩ : ByteArray).size = 12 := rfl; simp only [ByteArray.size_append, ByteArray.size_extract, decide_eq_true_eq, Nat.min_self] at *; omega)] <;> try with_reducible rfl)
                            rotate_left
                            · simp only [Act.put, List.setIfInBounds_toArray, List.set_cons_zero, List.set_cons_succ, i64_w, i32_w]
                              rfl
                            refine pure_ (i := 5) (N := some 32) (v := ?_) (a' := ?_) #[true, true, true, true, true, true, false, false, false, false, false, false, false, false] rfl rfl (any_of HT_.out (by kernel_rfl)) (fun _ _ _ h => h) (Or.inl ⟨by rfl, ?_⟩) ?_ ?_
                            rotate_left
                            · intro w'
                              go_simp
                              first | with_reducible rfl | (rw [if_neg (by have hq_ : (⟨#[123, 125, 44, 58, 42, 43, 35, 47, 59, 63, 38, 32]⟩ : ByteArray).size = 12 := rfl; simp only [ByteArray.size_append, ByteArray.size_extract, decide_eq_true_eq, Nat.min_self] at *; omega)] <;> try with_reducible rfl)
                            rotate_left
                            · simp only [Act.put, List.setIfInBounds_toArray, List.set_cons_zero, List.set_cons_succ, i64_w, i32_w]
                              rfl
                            refine pure_ (i := 6) (N := some 33) (v := ?_) (a' := ?_) #[true, true, true, true, true, true, true, false, false, false, false, false, false, false] rfl rfl (any_of HT_.out (by kernel_rfl)) (fun _ _ _ h => h) (Or.inl ⟨by rfl, ?_⟩) ?_ ?_
                            rotate_left
                            · intro w'
                              go_simp
                              first | with_reducible rfl | (rw [if_neg (by have hq_ : (⟨#[123, 125, 44, 58, 42, 43, 35, 47, 59, 63, 38, 32]⟩ : ByteArray).size = 12 := rfl; simp only [ByteArray.size_append, ByteArray.size_extract, decide_eq_true_eq, Nat.min_self] at *; omega)] <;> try with_reducible rfl)
                            rotate_left
                            · simp only [Act.put, List.setIfInBounds_toArray, List.set_cons_zero, List.set_cons_succ, i64_w, i32_w]
                              rfl
                            refine pure_ (i := 7) (N := some 34) (v := ?_) (a' := ?_) #[true, true, true, true, true, true, true, true, false, false, false, false, false, false] rfl rfl (any_of HT_.out (by kernel_rfl)) (fun _ _ _ h => h) (Or.inl ⟨by rfl, ?_⟩) ?_ ?_
                            rotate_left
                            · intro w'
                              go_simp
                              first | with_reducible rfl | (rw [if_neg (by have hq_ : (⟨#[123, 125, 44, 58, 42, 43, 35, 47, 59, 63, 38, 32]⟩ : ByteArray).size = 12 := rfl; simp only [ByteArray.size_append, ByteArray.size_extract, decide_eq_true_eq, Nat.min_self] at *; omega)] <;> try with_reducible rfl)
                            rotate_left
                            · simp only [Act.put, List.setIfInBounds_toArray, List.set_cons_zero, List.set_cons_succ, i64_w, i32_w]
                              rfl
                            refine pure_ (i := 8) (N := some 35) (v := ?_) (a' := ?_) #[true, true, true, true, true, true, true, true, true, false, false, false, false, false] rfl rfl (any_of HT_.out (by kernel_rfl)) (fun _ _ _ h => h) (Or.inl ⟨by rfl, ?_⟩) ?_ ?_
                            rotate_left
                            · intro w'
                              go_simp
                              first | with_reducible rfl | (rw [if_neg (by have hq_ : (⟨#[123, 125, 44, 58, 42, 43, 35, 47, 59, 63, 38, 32]⟩ : ByteArray).size = 12 := rfl; simp only [ByteArray.size_append, ByteArray.size_extract, decide_eq_true_eq, Nat.min_self] at *; omega)] <;> try with_reducible rfl)
                            rotate_left
                            · simp only [Act.put, List.setIfInBounds_toArray, List.set_cons_zero, List.set_cons_succ, i64_w, i32_w]
                              rfl
                            refine pure_ (i := 9) (N := some 36) (v := ?_) (a' := ?_) #[true, true, true, true, true, true, true, true, true, true, false, false, false, false] rfl rfl (any_of HT_.out (by kernel_rfl)) (fun _ _ _ h => h) (Or.inl ⟨by rfl, ?_⟩) ?_ ?_
                            rotate_left
                            · intro w'
                              go_simp
                              first | with_reducible rfl | (rw [if_neg (by have hq_ : (⟨#[123, 125, 44, 58, 42, 43, 35, 47, 59, 63, 38, 32]⟩ : ByteArray).size = 12 := rfl; simp only [ByteArray.size_append, ByteArray.size_extract, decide_eq_true_eq, Nat.min_self] at *; omega)] <;> try with_reducible rfl)
                            rotate_left
                            · simp only [Act.put, List.setIfInBounds_toArray, List.set_cons_zero, List.set_cons_succ, i64_w, i32_w]
                              rfl
                            refine pure_ (i := 10) (N := some 37) (v := ?_) (a' := ?_) #[true, true, true, true, true, true, true, true, true, true, true, false, false, false] rfl rfl (any_of HT_.out (by kernel_rfl)) (fun _ _ _ h => h) (Or.inl ⟨by rfl, ?_⟩) ?_ ?_
                            rotate_left
                            · intro w'
                              go_simp
                              first | with_reducible rfl | (rw [if_neg (by have hq_ : (⟨#[123, 125, 44, 58, 42, 43, 35, 47, 59, 63, 38, 32]⟩ : ByteArray).size = 12 := rfl; simp only [ByteArray.size_append, ByteArray.size_extract, decide_eq_true_eq, Nat.min_self] at *; omega)] <;> try with_reducible rfl)
                            rotate_left
                            · simp only [Act.put, List.setIfInBounds_toArray, List.set_cons_zero, List.set_cons_succ, i64_w, i32_w]
                              rfl
                            refine pure_ (i := 11) (N := some 38) (v := ?_) (a' := ?_) #[true, true, true, true, true, true, true, true, true, true, true, true, false, false] rfl rfl (any_of HT_.out (by kernel_rfl)) (fun _ _ _ h => h) (Or.inl ⟨by rfl, ?_⟩) ?_ ?_
                            rotate_left
                            · intro w'
                              go_simp
                              first | with_reducible rfl | (rw [if_neg (by have hq_ : (⟨#[123, 125, 44, 58, 42, 43, 35, 47, 59, 63, 38, 32]⟩ : ByteArray).size = 12 := rfl; simp only [ByteArray.size_append, ByteArray.size_extract, decide_eq_true_eq, Nat.min_self] at *; omega)] <;> try with_reducible rfl)
                            rotate_left
                            · simp only [Act.put, List.setIfInBounds_toArray, List.set_cons_zero, List.set_cons_succ, i64_w, i32_w]
                              rfl
                            refine pure_ (i := 12) (N := some 39) (v := ?_) (a' := ?_) #[true, true, true, true, true, true, true, true, true, true, true, true, true, false] rfl rfl (any_of HT_.out (by kernel_rfl)) (fun _ _ _ h => h) (Or.inl ⟨by rfl, ?_⟩) ?_ ?_
                            rotate_left
                            · intro w'
                              go_simp
                              first | with_reducible rfl | (rw [if_neg (by have hq_ : (⟨#[123, 125, 44, 58, 42, 43, 35, 47, 59, 63, 38, 32]⟩ : ByteArray).size = 12 := rfl; simp only [ByteArray.size_append, ByteArray.size_extract, decide_eq_true_eq, Nat.min_self] at *; omega)] <;> try with_reducible rfl)
                            rotate_left
                            · simp only [Act.put, List.setIfInBounds_toArray, List.set_cons_zero, List.set_cons_succ, i64_w, i32_w]
                              rfl
                            refine pure_ (i := 13) (N := some 10) (v := ?_) (a' := ?_) #[true, true, true, true, true, true, true, true, true, true, true, true, true, true] rfl rfl (any_of HT_.out (by kernel_rfl)) (fun _ _ _ h => h) (Or.inl ⟨by rfl, ?_⟩) ?_ ?_
                            rotate_left
                            · intro w'
                              go_simp
                              first | with_reducible rfl | (rw [if_neg (by have hq_ : (⟨#[123, 125, 44, 58, 42, 43, 35, 47, 59, 63, 38, 32]⟩ : ByteArray).size = 12 := rfl; simp only [ByteArray.size_append, ByteArray.size_extract, decide_eq_true_eq, Nat.min_self] at *; omega)] <;> try with_reducible rfl)
                            rotate_left
                            · simp only [Act.put, List.setIfInBounds_toArray, List.set_cons_zero, List.set_cons_succ, i64_w, i32_w]
                              rfl
                            refine done_ (done_of HT_.out (by kernel_rfl)) ?_
                            try go_wp2
                            have n0_ := Aside0.mk (below_drew1 HB.out)
                            clear HB
                            have HB := n0_
                            clear n0_
                            refine start_ (n := 24) (S := fun w' => True) (ds := []) #[false, false, false, false, false, false, false, false, false, false, false, false, false, false, false, false, false, false, false, false, false, false, false, false] (by kernel_rfl) rfl rfl trivial (fun hHeld => ?_); refine with_tabW phalaropelaw05_VnameFew.tab7 phalaropelaw05_VnameFew.bits7 (fun HT_ HW_ => ?_)
                            generalize w26.drew = w27 at HB hHeld ⊢
                            refine pure_ (i := 0) (N := some 40) (v := ?_) (a' := ?_) #[true, false, false, false, false, false, false, false, false, false, false, false, false, false, false, false, false, false, false, false, false, false, false, false] rfl rfl (any_of HT_.out (by kernel_rfl)) (fun _ _ _ h => h) (Or.inl ⟨by rfl, ?_⟩) ?_ ?_
                            rotate_left
                            · intro w'
                              go_simp
                              first | with_reducible rfl | (rw [if_neg (by have hq_ : (⟨#[123, 125, 44, 58, 42, 43, 35, 47, 59, 63, 38, 32]⟩ : ByteArray).size = 12 := rfl; simp only [ByteArray.size_append, ByteArray.size_extract, decide_eq_true_eq, Nat.min_self] at *; omega)] <;> try with_reducible rfl)
                            rotate_left
                            · simp only [Act.put, List.setIfInBounds_toArray, List.set_cons_zero, List.set_cons_succ, i64_w, i32_w]
                              rfl
                            refine pure_ (i := 1) (N := some 41) (v := ?_) (a' := ?_) #[true, true, false, false, false, false, false, false, false, false, false, false, false, false, false, false, false, false, false, false, false, false, false, false] rfl rfl (any_of HT_.out (by kernel_rfl)) (fun _ _ _ h => h) (Or.inl ⟨by rfl, ?_⟩) ?_ ?_
                            rotate_left
                            · intro w'
                              go_simp
                              first | with_reducible rfl | (rw [if_neg (by have hq_ : (⟨#[123, 125, 44, 58, 42, 43, 35, 47, 59, 63, 38, 32]⟩ : ByteArray).size = 12 := rfl; simp only [ByteArray.size_append, ByteArray.size_extract, decide_eq_true_eq, Nat.min_self] at *; omega)] <;> try with_reducible rfl)
                            rotate_left
                            · simp only [Act.put, List.setIfInBounds_toArray, List.set_cons_zero, List.set_cons_succ, i64_w, i32_w]
                              rfl
                            refine pure_ (i := 2) (N := some 42) (v := ?_) (a' := ?_) #[true, true, true, false, false, false, false, false, false, false, false, false, false, false, false, false, false, false, false, false, false, false, false, false] rfl rfl (any_of HT_.out (by kernel_rfl)) (fun _ _ _ h => h) (Or.inl ⟨by rfl, ?_⟩) ?_ ?_
                            rotate_left
                            · intro w'
                              go_simp
                              first | with_reducible rfl | (rw [if_neg (by have hq_ : (⟨#[123, 125, 44, 58, 42, 43, 35, 47, 59, 63, 38, 32]⟩ : ByteArray).size = 12 := rfl; simp only [ByteArray.size_append, ByteArray.size_extract, decide_eq_true_eq, Nat.min_self] at *; omega)] <;> try with_reducible rfl)
                            rotate_left
                            · simp only [Act.put, List.setIfInBounds_toArray, List.set_cons_zero, List.set_cons_succ, i64_w, i32_w]
                              rfl
                            refine pure_ (i := 3) (N := some 43) (v := ?_) (a' := ?_) #[true, true, true, true, false, false, false, false, false, false, false, false, false, false, false, false, false, false, false, false, false, false, false, false] rfl rfl (any_of HT_.out (by kernel_rfl)) (fun _ _ _ h => h) (Or.inl ⟨by rfl, ?_⟩) ?_ ?_
                            rotate_left
                            · intro w'
                              go_simp
                              first | with_reducible rfl | (rw [if_neg (by have hq_ : (⟨#[123, 125, 44, 58, 42, 43, 35, 47, 59, 63, 38, 32]⟩ : ByteArray).size = 12 := rfl; simp only [ByteArray.size_append, ByteArray.size_extract, decide_eq_true_eq, Nat.min_self] at *; omega)] <;> try with_reducible rfl)
                            rotate_left
                            · simp only [Act.put, List.setIfInBounds_toArray, List.set_cons_zero, List.set_cons_succ, i64_w, i32_w]
                              rfl
                            refine pure_ (i := 4) (N := some 44) (v := ?_) (a' := ?_) #[true, true, true, true, true, false, false, false, false, false, false, false, false, false, false, false, false, false, false, false, false, false, false, false] rfl rfl (any_of HT_.out (by kernel_rfl)) (fun _ _ _ h => h) (Or.inl ⟨by rfl, ?_⟩) ?_ ?_
                            rotate_left
                            · intro w'
                              go_simp
                              first | with_reducible rfl | (rw [if_neg (by have hq_ : (⟨#[123, 125, 44, 58, 42, 43, 35, 47, 59, 63, 38, 32]⟩ : ByteArray).size = 12 := rfl; simp only [ByteArray.size_append, ByteArray.size_extract, decide_eq_true_eq, Nat.min_self] at *; omega)] <;> try with_reducible rfl)
                            rotate_left
                            · simp only [Act.put, List.setIfInBounds_toArray, List.set_cons_zero, List.set_cons_succ, i64_w, i32_w]
                              rfl
                            refine pure_ (i := 5) (N := some 45) (v := ?_) (a' := ?_) #[true, true, true, true, true, true, false, false, false, false, false, false, false, false, false, false, false, false, false, false, false, false, false, false] rfl rfl (any_of HT_.out (by kernel_rfl)) (fun _ _ _ h => h) (Or.inl ⟨by rfl, ?_⟩) ?_ ?_
                            rotate_left
                            · intro w'
                              go_simp
                              first | with_reducible rfl | (rw [if_neg (by have hq_ : (⟨#[123, 125, 44, 58, 42, 43, 35, 47, 59, 63, 38, 32]⟩ : ByteArray).size = 12 := rfl; simp only [ByteArray.size_append, ByteArray.size_extract, decide_eq_true_eq, Nat.min_self] at *; omega)] <;> try with_reducible rfl)
                            rotate_left
                            · simp only [Act.put, List.setIfInBounds_toArray, List.set_cons_zero, List.set_cons_succ, i64_w, i32_w]
                              rfl
                            refine pure_ (i := 6) (N := some 46) (v := ?_) (a' := ?_) #[true, true, true, true, true, true, true, false, false, false, false, false, false, false, false, false, false, false, false, false, false, false, false, false] rfl rfl (any_of HT_.out (by kernel_rfl)) (fun _ _ _ h => h) (Or.inl ⟨by rfl, ?_⟩) ?_ ?_
                            rotate_left
                            · intro w'
                              go_simp
                              first | with_reducible rfl | (rw [if_neg (by have hq_ : (⟨#[123, 125, 44, 58, 42, 43, 35, 47, 59, 63, 38, 32]⟩ : ByteArray).size = 12 := rfl; simp only [ByteArray.size_append, ByteArray.size_extract, decide_eq_true_eq, Nat.min_self] at *; omega)] <;> try with_reducible rfl)
                            rotate_left
                            · simp only [Act.put, List.setIfInBounds_toArray, List.set_cons_zero, List.set_cons_succ, i64_w, i32_w]
                              rfl
                            refine pure_ (i := 7) (N := some 47) (v := ?_) (a' := ?_) #[true, true, true, true, true, true, true, true, false, false, false, false, false, false, false, false, false, false, false, false, false, false, false, false] rfl rfl (any_of HT_.out (by kernel_rfl)) (fun _ _ _ h => h) (Or.inl ⟨by rfl, ?_⟩) ?_ ?_
                            rotate_left
                            · intro w'
                              go_simp
                              first | with_reducible rfl | (rw [if_neg (by have hq_ : (⟨#[123, 125, 44, 58, 42, 43, 35, 47, 59, 63, 38, 32]⟩ : ByteArray).size = 12 := rfl; simp only [ByteArray.size_append, ByteArray.size_extract, decide_eq_true_eq, Nat.min_self] at *; omega)] <;> try with_reducible rfl)
                            rotate_left
                            · simp only [Act.put, List.setIfInBounds_toArray, List.set_cons_zero, List.set_cons_succ, i64_w, i32_w]
                              rfl
                            refine pure_ (i := 8) (N := some 48) (v := ?_) (a' := ?_) #[true, true, true, true, true, true, true, true, true, false, false, false, false, false, false, false, false, false, false, false, false, false, false, false] rfl rfl (any_of HT_.out (by kernel_rfl)) (fun _ _ _ h => h) (Or.inl ⟨by rfl, ?_⟩) ?_ ?_
                            rotate_left
                            · intro w'
                              go_simp
                              first | with_reducible rfl | (rw [if_neg (by have hq_ : (⟨#[123, 125, 44, 58, 42, 43, 35, 47, 59, 63, 38, 32]⟩ : ByteArray).size = 12 := rfl; simp only [ByteArray.size_append, ByteArray.size_extract, decide_eq_true_eq, Nat.min_self] at *; omega)] <;> try with_reducible rfl)
                            rotate_left
                            · simp only [Act.put, List.setIfInBounds_toArray, List.set_cons_zero, List.set_cons_succ, i64_w, i32_w]
                              rfl
                            refine pure_ (i := 9) (N := some 49) (v := ?_) (a' := ?_) #[true, true, true, true, true, true, true, true, true, true, false, false, false, false, false, false, false, false, false, false, false, false, false, false] rfl rfl (any_of HT_.out (by kernel_rfl)) (fun _ _ _ h => h) (Or.inl ⟨by rfl, ?_⟩) ?_ ?_
                            rotate_left
                            · intro w'
                              go_simp
                              first | with_reducible rfl | (rw [if_neg (by have hq_ : (⟨#[123, 125, 44, 58, 42, 43, 35, 47, 59, 63, 38, 32]⟩ : ByteArray).size = 12 := rfl; simp only [ByteArray.size_append, ByteArray.size_extract, decide_eq_true_eq, Nat.min_self] at *; omega)] <;> try with_reducible rfl)
                            rotate_left
                            · simp only [Act.put, List.setIfInBounds_toArray, List.set_cons_zero, List.set_cons_succ, i64_w, i32_w]
                              rfl
                            refine pure_ (i := 10) (N := some 50) (v := ?_) (a' := ?_) #[true, true, true, true, true, true, true, true, true, true, true, false, false, false, false, false, false, false, false, false, false, false, false, false] rfl rfl (any_of HT_.out (by kernel_rfl)) (fun _ _ _ h => h) (Or.inl ⟨by rfl, ?_⟩) ?_ ?_
                            rotate_left
                            · intro w'
                              go_simp
                              first | with_reducible rfl | (rw [if_neg (by have hq_ : (⟨#[123, 125, 44, 58, 42, 43, 35, 47, 59, 63, 38, 32]⟩ : ByteArray).size = 12 := rfl; simp only [ByteArray.size_append, ByteArray.size_extract, decide_eq_true_eq, Nat.min_self] at *; omega)] <;> try with_reducible rfl)
                            rotate_left
                            · simp only [Act.put, List.setIfInBounds_toArray, List.set_cons_zero, List.set_cons_succ, i64_w, i32_w]
                              rfl
                            refine one_ (i := 11) (N := some 51) #[true, true, true, true, true, true, true, true, true, true, true, true, false, false, false, false, false, false, false, false, false, false, false, false] rfl rfl (one_of HT_.out (by kernel_rfl)) (by decide) (fun K hK => ?_)
                            refine goes_ Tryd.func10 (by kernel_rfl) rfl #[.string (((a0.extract 0 ((ji17) : Int).toNat) ++ ((⟨#[123, 125, 44, 58, 42, 43, 35, 47, 59, 63, 38, 32]⟩ : ByteArray).extract ((ji12) : Int).toNat ((wrap64 ((ji12) + 1)) : Int).toNat)) ++ (a0.extract ((ji17) : Int).toNat a0.size))] (by rfl) rfl rfl (by (try simp only [List.map_toArray, List.map_cons, List.map_nil]); first | done | (simp only [hji12, hji17]; rfl) | rfl | (simp only [List.length_drop, List.length_take]; rfl)) ?_
                            with_reducible refine (vname_May.calls (((a0.extract 0 ((ji17) : Int).toNat) ++ ((⟨#[123, 125, 44, 58, 42, 43, 35, 47, 59, 63, 38, 32]⟩ : ByteArray).extract ((ji12) : Int).toNat ((wrap64 ((ji12) + 1)) : Int).toNat)) ++ (a0.extract ((ji17) : Int).toNat a0.size)) true _ A24.out).mono ?_
                            rintro e w28 ⟨rfl, hb⟩
                            refine ⟨_, rfl, ?_⟩
                            have n0_ := Aside0.mk (below_step (by repeat (first | (with_reducible first | exact HB.out | apply below_alloc | apply pw_below_drewN | apply below_drew1) | exact HB.out)) hb)
                            clear HB
                            have HB := n0_
                            clear n0_
                            (try clear hb)
                            (try clear hb2)
                            (try clear hk)
                            (try clear hi)
                            refine hK.out _ _ trivial (fun hHeld => ?_)
                            clear hK K
                            refine norm_ (a' := ?_) ?_ ?_
                            rotate_left
                            · show Act.put _ (some 51) _ = _
                              simp only [Act.put, List.setIfInBounds_toArray, List.set_cons_zero, List.set_cons_succ, i64_w, i32_w]
                              rfl
                            refine pure_ (i := 12) (N := some 52) (v := ?_) (a' := ?_) #[true, true, true, true, true, true, true, true, true, true, true, true, true, false, false, false, false, false, false, false, false, false, false, false] rfl rfl (any_of HT_.out (by kernel_rfl)) (fun _ _ _ h => h) (Or.inl ⟨by rfl, ?_⟩) ?_ ?_
                            rotate_left
                            · intro w'
                              go_simp
                              first | with_reducible rfl | (rw [if_neg (by have hq_ : (⟨#[123, 125, 44, 58, 42, 43, 35, 47, 59, 63, 38, 32]⟩ : ByteArray).size = 12 := rfl; simp only [ByteArray.size_append, ByteArray.size_extract, decide_eq_true_eq, Nat.min_self] at *; omega)] <;> try with_reducible rfl)
                            rotate_left
                            · simp only [Act.put, List.setIfInBounds_toArray, List.set_cons_zero, List.set_cons_succ, i64_w, i32_w]
                              rfl
                            refine pure_ (i := 13) (N := some 53) (v := ?_) (a' := ?_) #[true, true, true, true, true, true, true, true, true, true, true, true, true, true, false, false, false, false, false, false, false, false, false, false] rfl rfl (any_of HT_.out (by kernel_rfl)) (fun _ _ _ h => h) (Or.inl ⟨by rfl, ?_⟩) ?_ ?_
                            rotate_left
                            · intro w'
                              go_simp
                              first | with_reducible rfl | (rw [if_neg (by have hq_ : (⟨#[123, 125, 44, 58, 42, 43, 35, 47, 59, 63, 38, 32]⟩ : ByteArray).size = 12 := rfl; simp only [ByteArray.size_append, ByteArray.size_extract, decide_eq_true_eq, Nat.min_self] at *; omega)] <;> try with_reducible rfl)
                            rotate_left
                            · simp only [Act.put, List.setIfInBounds_toArray, List.set_cons_zero, List.set_cons_succ, i64_w, i32_w]
                              rfl
                            refine pure_ (i := 14) (N := some 54) (v := ?_) (a' := ?_) #[true, true, true, true, true, true, true, true, true, true, true, true, true, true, true, false, false, false, false, false, false, false, false, false] rfl rfl (any_of HT_.out (by kernel_rfl)) (fun _ _ _ h => h) (Or.inl ⟨by rfl, ?_⟩) ?_ ?_
                            rotate_left
                            · intro w'
                              go_simp
                              first | with_reducible rfl | (rw [if_neg (by have hq_ : (⟨#[123, 125, 44, 58, 42, 43, 35, 47, 59, 63, 38, 32]⟩ : ByteArray).size = 12 := rfl; simp only [ByteArray.size_append, ByteArray.size_extract, decide_eq_true_eq, Nat.min_self] at *; omega)] <;> try with_reducible rfl)
                            rotate_left
                            · simp only [Act.put, List.setIfInBounds_toArray, List.set_cons_zero, List.set_cons_succ, i64_w, i32_w]
                              rfl
                            refine pure_ (i := 15) (N := some 55) (v := undef) (a' := ?_) #[true, true, true, true, true, true, true, true, true, true, true, true, true, true, true, true, false, false, false, false, false, false, false, false] rfl rfl (any_of HT_.out (by kernel_rfl)) (fun _ _ _ h => h) (Or.inr ⟨by rfl, rfl⟩) ?_ ?_
                            rotate_left
                            · simp only [Act.put, List.setIfInBounds_toArray, List.set_cons_zero, List.set_cons_succ, i64_w, i32_w]
                              rfl
                            refine pure_ (i := 16) (N := some 56) (v := undef) (a' := ?_) #[true, true, true, true, true, true, true, true, true, true, true, true, true, true, true, true, true, false, false, false, false, false, false, false] rfl rfl (any_of HT_.out (by kernel_rfl)) (fun _ _ _ h => h) (Or.inr ⟨by rfl, rfl⟩) ?_ ?_
                            rotate_left
                            · simp only [Act.put, List.setIfInBounds_toArray, List.set_cons_zero, List.set_cons_succ, i64_w, i32_w]
                              rfl
                            refine pure_ (i := 17) (N := some 57) (v := undef) (a' := ?_) #[true, true, true, true, true, true, true, true, true, true, true, true, true, true, true, true, true, true, false, false, false, false, false, false] rfl rfl (any_of HT_.out (by kernel_rfl)) (fun _ _ _ h => h) (Or.inr ⟨by rfl, rfl⟩) ?_ ?_
                            rotate_left
                            · simp only [Act.put, List.setIfInBounds_toArray, List.set_cons_zero, List.set_cons_succ, i64_w, i32_w]
                              rfl
                            refine pure_ (i := 18) (N := some 58) (v := undef) (a' := ?_) #[true, true, true, true, true, true, true, true, true, true, true, true, true, true, true, true, true, true, true, false, false, false, false, false] rfl rfl (any_of HT_.out (by kernel_rfl)) (fun _ _ _ h => h) (Or.inr ⟨by rfl, rfl⟩) ?_ ?_
                            rotate_left
                            · simp only [Act.put, List.setIfInBounds_toArray, List.set_cons_zero, List.set_cons_succ, i64_w, i32_w]
                              rfl
                            refine pure_ (i := 19) (N := some 59) (v := undef) (a' := ?_) #[true, true, true, true, true, true, true, true, true, true, true, true, true, true, true, true, true, true, true, true, false, false, false, false] rfl rfl (any_of HT_.out (by kernel_rfl)) (fun _ _ _ h => h) (Or.inr ⟨by rfl, rfl⟩) ?_ ?_
                            rotate_left
                            · simp only [Act.put, List.setIfInBounds_toArray, List.set_cons_zero, List.set_cons_succ, i64_w, i32_w]
                              rfl
                            refine pure_ (i := 20) (N := some 60) (v := undef) (a' := ?_) #[true, true, true, true, true, true, true, true, true, true, true, true, true, true, true, true, true, true, true, true, true, false, false, false] rfl rfl (any_of HT_.out (by kernel_rfl)) (fun _ _ _ h => h) (Or.inr ⟨by rfl, rfl⟩) ?_ ?_
                            rotate_left
                            · simp only [Act.put, List.setIfInBounds_toArray, List.set_cons_zero, List.set_cons_succ, i64_w, i32_w]
                              rfl
                            refine pure_ (i := 21) (N := some 61) (v := undef) (a' := ?_) #[true, true, true, true, true, true, true, true, true, true, true, true, true, true, true, true, true, true, true, true, true, true, false, false] rfl rfl (any_of HT_.out (by kernel_rfl)) (fun _ _ _ h => h) (Or.inr ⟨by rfl, rfl⟩) ?_ ?_
                            rotate_left
                            · simp only [Act.put, List.setIfInBounds_toArray, List.set_cons_zero, List.set_cons_succ, i64_w, i32_w]
                              rfl
                            refine pure_ (i := 22) (N := some 62) (v := ?_) (a' := ?_) #[true, true, true, true, true, true, true, true, true, true, true, true, true, true, true, true, true, true, true, true, true, true, true, false] rfl rfl (any_of HT_.out (by kernel_rfl)) (fun _ _ _ h => h) (Or.inl ⟨by rfl, ?_⟩) ?_ ?_
                            rotate_left
                            · intro w'
                              go_simp
                              first | with_reducible rfl | (rw [if_neg (by have hq_ : (⟨#[123, 125, 44, 58, 42, 43, 35, 47, 59, 63, 38, 32]⟩ : ByteArray).size = 12 := rfl; simp only [ByteArray.size_append, ByteArray.size_extract, decide_eq_true_eq, Nat.min_self] at *; omega)] <;> try with_reducible rfl)
                            rotate_left
                            · simp only [Act.put, List.setIfInBounds_toArray, List.set_cons_zero, List.set_cons_succ, i64_w, i32_w]
                              rfl
                            refine pure_ (i := 23) (N := some 6) (v := ?_) (a' := ?_) #[true, true, true, true, true, true, true, true, true, true, true, true, true, true, true, true, true, true, true, true, true, true, true, true] rfl rfl (any_of HT_.out (by kernel_rfl)) (fun _ _ _ h => h) (Or.inl ⟨by rfl, ?_⟩) ?_ ?_
                            rotate_left
                            · intro w'
                              go_simp
                              first | with_reducible rfl | (rw [if_neg (by have hq_ : (⟨#[123, 125, 44, 58, 42, 43, 35, 47, 59, 63, 38, 32]⟩ : ByteArray).size = 12 := rfl; simp only [ByteArray.size_append, ByteArray.size_extract, decide_eq_true_eq, Nat.min_self] at *; omega)] <;> try with_reducible rfl)
                            rotate_left
                            · simp only [Act.put, List.setIfInBounds_toArray, List.set_cons_zero, List.set_cons_succ, i64_w, i32_w]
                              rfl
                            refine done_ (done_of HT_.out (by kernel_rfl)) ?_
                            try go_wp2
                            go_ret
                            exact ⟨by first | rfl | (simp [errW_none, errW_some] <;> rfl) | (simp only [← hji12, ← hji17]; first | rfl | (simp [errW_none, errW_some] <;> rfl)) | (simp [*, errW_none, errW_some] <;> rfl), by repeat (first | (with_reducible first | exact HB.out | apply below_alloc | apply pw_below_drewN | apply below_drew1) | exact HB.out)⟩
                          · replace c25 := Bool.eq_false_iff.mpr c25
                            subst c25
                            have H1 : (if a0.size + ((⟨#[123, 125, 44, 58, 42, 43, 35, 47, 59, 63, 38, 32]⟩ : ByteArray).extract ((ji12) : Int).toNat ((wrap64 ((ji12) + 1)) : Int).toNat).size ≤ 9223372036854775807 then ((vname_End.f (a0 ++ ((⟨#[123, 125, 44, 58, 42, 43, 35, 47, 59, 63, 38, 32]⟩ : ByteArray).extract ((ji12) : Int).toNat ((wrap64 ((ji12) + 1)) : Int).toNat))).bind fun t121 => (some (t121 == (a0.size : Int)))) else (none)) = some r := by rw [if_neg (show ¬ (false = true) by decide)] at H; exact H
                            clear H
                            have H := H1
                            clear H1
                            by_cases c29 : a0.size + ((⟨#[123, 125, 44, 58, 42, 43, 35, 47, 59, 63, 38, 32]⟩ : ByteArray).extract ((ji12) : Int).toNat ((wrap64 ((ji12) + 1)) : Int).toNat).size ≤ 9223372036854775807
                            · rw [if_pos c29] at H
                              have c29b0 := eq_true c29
                              have c29b1 : decide (a0.size + ((⟨#[123, 125, 44, 58, 42, 43, 35, 47, 59, 63, 38, 32]⟩ : ByteArray).extract ((ji12) : Int).toNat ((wrap64 ((ji12) + 1)) : Int).toNat).size ≤ 9223372036854775807) = true := decide_eq_true c29
                              try have c29b2 : (9223372036854775807 < a0.size + ((⟨#[123, 125, 44, 58, 42, 43, 35, 47, 59, 63, 38, 32]⟩ : ByteArray).extract ((ji12) : Int).toNat ((wrap64 ((ji12) + 1)) : Int).toNat).size) = False := eq_false (Nat.not_lt.2 c29)
                              replace H := Option.bind_eq_some_iff.mp H
                              obtain ⟨t121, A300, H⟩ := H
                              replace H : (some (t121 == (a0.size : Int))) = some r := H
                              have A30 := Aside0.mk A300
                              clear A300
                              obtain rfl := Option.some.inj H
                              try go_wp2
                              have n0_ := Aside0.mk (below_drew1 HB.out)
                              clear HB
                              have HB := n0_
                              clear n0_
                              refine start_ (n := 14) (S := fun w' => True) (ds := []) #[false, false, false, false, false, false, false, false, false, false, false, false, false, false] (by kernel_rfl) rfl rfl trivial (fun hHeld => ?_); refine with_tabW phalaropelaw05_VnameFew.tab6 phalaropelaw05_VnameFew.bits6 (fun HT_ HW_ => ?_)
                              generalize wc.drew = w31 at HB hHeld ⊢
                              refine pure_ (i := 0) (N := some 27) (v := ?_) (a' := ?_) #[true, false, false, false, false, false, false, false, false, false, false, false, false, false] rfl rfl (any_of HT_.out (by kernel_rfl)) (fun _ _ _ h => h) (Or.inl ⟨by rfl, ?_⟩) ?_ ?_
                              rotate_left
                              · intro w'
                                go_simp
                                first | with_reducible rfl | (rw [if_neg (by have hq_ : (⟨#[123, 125, 44, 58, 42, 43, 35, 47, 59, 63, 38, 32]⟩ : ByteArray).size = 12 := rfl; simp only [ByteArray.size_append, ByteArray.size_extract, decide_eq_true_eq, Nat.min_self] at *; omega)] <;> try with_reducible rfl)
                              rotate_left
                              · simp only [Act.put, List.setIfInBounds_toArray, List.set_cons_zero, List.set_cons_succ, i64_w, i32_w]
                                rfl
                              refine pure_ (i := 1) (N := some 28) (v := ?_) (a' := ?_) #[true, true, false, false, false, false, false, false, false, false, false, false, false, false] rfl rfl (any_of HT_.out (by kernel_rfl)) (fun _ _ _ h => h) (Or.inl ⟨by rfl, ?_⟩) ?_ ?_
                              rotate_left
                              · intro w'
                                go_simp
                                first | with_reducible rfl | (rw [if_neg (by have hq_ : (⟨#[123, 125, 44, 58, 42, 43, 35, 47, 59, 63, 38, 32]⟩ : ByteArray).size = 12 := rfl; simp only [ByteArray.size_append, ByteArray.size_extract, decide_eq_true_eq, Nat.min_self] at *; omega)] <;> try with_reducible rfl)
                              rotate_left
                              · simp only [Act.put, List.setIfInBounds_toArray, List.set_cons_zero, List.set_cons_succ, i64_w, i32_w]
                                rfl
                              refine pure_ (i := 2) (N := some 29) (v := ?_) (a' := ?_) #[true, true, true, false, false, false, false, false, false, false, false, false, false, false] rfl rfl (any_of HT_.out (by kernel_rfl)) (fun _ _ _ h => h) (Or.inl ⟨by rfl, ?_⟩) ?_ ?_
                              rotate_left
                              · intro w'
                                go_simp
                                first | with_reducible rfl | (rw [if_neg (by have hq_ : (⟨#[123, 125, 44, 58, 42, 43, 35, 47, 59, 63, 38, 32]⟩ : ByteArray).size = 12 := rfl; simp only [ByteArray.size_append, ByteArray.size_extract, decide_eq_true_eq, Nat.min_self] at *; omega)] <;> try with_reducible rfl)
                              rotate_left
                              · simp only [Act.put, List.setIfInBounds_toArray, List.set_cons_zero, List.set_cons_succ, i64_w, i32_w]
                                rfl
                              refine pure_ (i := 3) (N := some 30) (v := ?_) (a' := ?_) #[true, true, true, true, false, false, false, false, false, false, false, false, false, false] rfl rfl (any_of HT_.out (by kernel_rfl)) (fun _ _ _ h => h) (Or.inl ⟨by rfl, ?_⟩) ?_ ?_
                              rotate_left
                              · intro w'
                                go_simp
                                first | with_reducible rfl | (rw [if_neg (by have hq_ : (⟨#[123, 125, 44, 58, 42, 43, 35, 47, 59, 63, 38, 32]⟩ : ByteArray).size = 12 := rfl; simp only [ByteArray.size_append, ByteArray.size_extract, decide_eq_true_eq, Nat.min_self] at *; omega)] <;> try with_reducible rfl)
                              rotate_left
                              · simp only [Act.put, List.setIfInBounds_toArray, List.set_cons_zero, List.set_cons_succ, i64_w, i32_w]
                                rfl
                              refine pure_ (i := 4) (N := some 31) (v := ?_) (a' := ?_) #[true, true, true, true, true, false, false, false, false, false, false, false, false, false] rfl rfl (any_of HT_.out (by kernel_rfl)) (fun _ _ _ h => h) (Or.inl ⟨by rfl, ?_⟩) ?_ ?_
                              rotate_left
                              · intro w'
                                go_simp
                                first | with_reducible rfl | (rw [if_neg (by have hq_ : (⟨#[123, 125, 44, 58, 42, 43, 35, 47, 59, 63, 38, 32]⟩ : ByteArray).size = 12 := rfl; simp only [ByteArray.size_append, ByteArray.size_extract, decide_eq_true_eq, Nat.min_self] at *; omega)] <;> try with_reducible rfl)
                              rotate_left
                              · simp only [Act.put, List.setIfInBounds_toArray, List.set_cons_zero, List.set_cons_succ, i64_w, i32_w]
                                rfl
                              refine pure_ (i := 5) (N := some 32) (v := ?_) (a' := ?_) #[true, true, true, true, true, true, false, false, false, false, false, false, false, false] rfl rfl (any_of HT_.out (by kernel_rfl)) (fun _ _ _ h => h) (Or.inl ⟨by rfl, ?_⟩) ?_ ?_
                              rotate_left
                              · intro w'
                                go_simp
                                first | with_reducible rfl | (rw [if_neg (by have hq_ : (⟨#[123, 125, 44, 58, 42, 43, 35, 47, 59, 63, 38, 32]⟩ : ByteArray).size = 12 := rfl; simp only [ByteArray.size_append, ByteArray.size_extract, decide_eq_true_eq, Nat.min_self] at *; omega)] <;> try with_reducible rfl)
                              rotate_left
                              · simp only [Act.put, List.setIfInBounds_toArray, List.set_cons_zero, List.set_cons_succ, i64_w, i32_w]
                                rfl
                              refine pure_ (i := 6) (N := some 33) (v := ?_) (a' := ?_) #[true, true, true, true, true, true, true, false, false, false, false, false, false, false] rfl rfl (any_of HT_.out (by kernel_rfl)) (fun _ _ _ h => h) (Or.inl ⟨by rfl, ?_⟩) ?_ ?_
                              rotate_left
                              · intro w'
                                go_simp
                                first | with_reducible rfl | (rw [if_neg (by have hq_ : (⟨#[123, 125, 44, 58, 42, 43, 35, 47, 59, 63, 38, 32]⟩ : ByteArray).size = 12 := rfl; simp only [ByteArray.size_append, ByteArray.size_extract, decide_eq_true_eq, Nat.min_self] at *; omega)] <;> try with_reducible rfl)
                              rotate_left
                              · simp only [Act.put, List.setIfInBounds_toArray, List.set_cons_zero, List.set_cons_succ, i64_w, i32_w]
                                rfl
                              refine pure_ (i := 7) (N := some 34) (v := ?_) (a' := ?_) #[true, true, true, true, true, true, true, true, false, false, false, false, false, false] rfl rfl (any_of HT_.out (by kernel_rfl)) (fun _ _ _ h => h) (Or.inl ⟨by rfl, ?_⟩) ?_ ?_
                              rotate_left
                              · intro w'
                                go_simp
                                first | with_reducible rfl | (rw [if_neg (by have hq_ : (⟨#[123, 125, 44, 58, 42, 43, 35, 47, 59, 63, 38, 32]⟩ : ByteArray).size = 12 := rfl; simp only [ByteArray.size_append, ByteArray.size_extract, decide_eq_true_eq, Nat.min_self] at *; omega)] <;> try with_reducible rfl)
                              rotate_left
                              · simp only [Act.put, List.setIfInBounds_toArray, List.set_cons_zero, List.set_cons_succ, i64_w, i32_w]
                                rfl
                              refine pure_ (i := 8) (N := some 35) (v := ?_) (a' := ?_) #[true, true, true, true, true, true, true, true, true, false, false, false, false, false] rfl rfl (any_of HT_.out (by kernel_rfl)) (fun _ _ _ h => h) (Or.inl ⟨by rfl, ?_⟩) ?_ ?_
                              rotate_left
                              · intro w'
                                go_simp
                                first | with_reducible rfl | (rw [if_neg (by have hq_ : (⟨#[123, 125, 44, 58, 42, 43, 35, 47, 59, 63, 38, 32]⟩ : ByteArray).size = 12 := rfl; simp only [ByteArray.size_append, ByteArray.size_extract, decide_eq_true_eq, Nat.min_self] at *; omega)] <;> try with_reducible rfl)
                              rotate_left
                              · simp only [Act.put, List.setIfInBounds_toArray, List.set_cons_zero, List.set_cons_succ, i64_w, i32_w]
                                rfl
                              refine pure_ (i := 9) (N := some 36) (v := ?_) (a' := ?_) #[true, true, true, true, true, true, true, true, true, true, false, false, false, false] rfl rfl (any_of HT_.out (by kernel_rfl)) (fun _ _ _ h => h) (Or.inl ⟨by rfl, ?_⟩) ?_ ?_
                              rotate_left
                              · intro w'
                                go_simp
                                first | with_reducible rfl | (rw [if_neg (by have hq_ : (⟨#[123, 125, 44, 58, 42, 43, 35, 47, 59, 63, 38, 32]⟩ : ByteArray).size = 12 := rfl; simp only [ByteArray.size_append, ByteArray.size_extract, decide_eq_true_eq, Nat.min_self] at *; omega)] <;> try with_reducible rfl)
                              rotate_left
                              · simp only [Act.put, List.setIfInBounds_toArray, List.set_cons_zero, List.set_cons_succ, i64_w, i32_w]
                                rfl
                              refine pure_ (i := 10) (N := some 37) (v := ?_) (a' := ?_) #[true, true, true, true, true, true, true, true, true, true, true, false, false, false] rfl rfl (any_of HT_.out (by kernel_rfl)) (fun _ _ _ h => h) (Or.inl ⟨by rfl, ?_⟩) ?_ ?_
                              rotate_left
                              · intro w'
                                go_simp
                                first | with_reducible rfl | (rw [if_neg (by have hq_ : (⟨#[123, 125, 44, 58, 42, 43, 35, 47, 59, 63, 38, 32]⟩ : ByteArray).size = 12 := rfl; simp only [ByteArray.size_append, ByteArray.size_extract, decide_eq_true_eq, Nat.min_self] at *; omega)] <;> try with_reducible rfl)
                              rotate_left
                              · simp only [Act.put, List.setIfInBounds_toArray, List.set_cons_zero, List.set_cons_succ, i64_w, i32_w]
                                rfl
                              refine pure_ (i := 11) (N := some 38) (v := ?_) (a' := ?_) #[true, true, true, true, true, true, true, true, true, true, true, true, false, false] rfl rfl (any_of HT_.out (by kernel_rfl)) (fun _ _ _ h => h) (Or.inl ⟨by rfl, ?_⟩) ?_ ?_
                              rotate_left
                              · intro w'
                                go_simp
                                first | with_reducible rfl | (rw [if_neg (by have hq_ : (⟨#[123, 125, 44, 58, 42, 43, 35, 47, 59, 63, 38, 32]⟩ : ByteArray).size = 12 := rfl; simp only [ByteArray.size_append, ByteArray.size_extract, decide_eq_true_eq, Nat.min_self] at *; omega)] <;> try with_reducible rfl)
                              rotate_left
                              · simp only [Act.put, List.setIfInBounds_toArray, List.set_cons_zero, List.set_cons_succ, i64_w, i32_w]
                                rfl
                              refine pure_ (i := 12) (N := some 39) (v := ?_) (a' := ?_) #[true, true, true, true, true, true, true, true, true, true, true, true, true, false] rfl rfl (any_of HT_.out (by kernel_rfl)) (fun _ _ _ h => h) (Or.inl ⟨by rfl, ?_⟩) ?_ ?_
                              rotate_left
                              · intro w'
                                go_simp
                                first | with_reducible rfl | (rw [if_neg (by have hq_ : (⟨#[123, 125, 44, 58, 42, 43, 35, 47, 59, 63, 38, 32]⟩ : ByteArray).size = 12 := rfl; simp only [ByteArray.size_append, ByteArray.size_extract, decide_eq_true_eq, Nat.min_self] at *; omega)] <;> try with_reducible rfl)
                              rotate_left
                              · simp only [Act.put, List.setIfInBounds_toArray, List.set_cons_zero, List.set_cons_succ, i64_w, i32_w]
                                rfl
                              refine pure_ (i := 13) (N := some 10) (v := ?_) (a' := ?_) #[true, true, true, true, true, true, true, true, true, true, true, true, true, true] rfl rfl (any_of HT_.out (by kernel_rfl)) (fun _ _ _ h => h) (Or.inl ⟨by rfl, ?_⟩) ?_ ?_
                              rotate_left
                              · intro w'
                                go_simp
                                first | with_reducible rfl | (rw [if_neg (by have hq_ : (⟨#[123, 125, 44, 58, 42, 43, 35, 47, 59, 63, 38, 32]⟩ : ByteArray).size = 12 := rfl; simp only [ByteArray.size_append, ByteArray.size_extract, decide_eq_true_eq, Nat.min_self] at *; omega)] <;> try with_reducible rfl)
                              rotate_left
                              · simp only [Act.put, List.setIfInBounds_toArray, List.set_cons_zero, List.set_cons_succ, i64_w, i32_w]
                                rfl
                              refine done_ (done_of HT_.out (by kernel_rfl)) ?_
                              try go_wp2
                              have n0_ := Aside0.mk (below_drew1 HB.out)
                              clear HB
                              have HB := n0_
                              clear n0_
                              refine start_ (n := 24) (S := fun w' => True) (ds := []) #[false, false, false, false, false, false, false, false, false, false, false, false, false, false, false, false, false, false, false, false, false, false, false, false] (by kernel_rfl) rfl rfl trivial (fun hHeld => ?_); refine with_tabW phalaropelaw05_VnameFew.tab7 phalaropelaw05_VnameFew.bits7 (fun HT_ HW_ => ?_)
                              generalize w31.drew = w32 at HB hHeld ⊢
                              refine pure_ (i := 0) (N := some 40) (v := ?_) (a' := ?_) #[true, false, false, false, false, false, false, false, false, false, false, false, false, false, false, false, false, false, false, false, false, false, false, false] rfl rfl (any_of HT_.out (by kernel_rfl)) (fun _ _ _ h => h) (Or.inl ⟨by rfl, ?_⟩) ?_ ?_
                              rotate_left
                              · intro w'
                                go_simp
                                first | with_reducible rfl | (rw [if_neg (by have hq_ : (⟨#[123, 125, 44, 58, 42, 43, 35, 47, 59, 63, 38, 32]⟩ : ByteArray).size = 12 := rfl; simp only [ByteArray.size_append, ByteArray.size_extract, decide_eq_true_eq, Nat.min_self] at *; omega)] <;> try with_reducible rfl)
                              rotate_left
                              · simp only [Act.put, List.setIfInBounds_toArray, List.set_cons_zero, List.set_cons_succ, i64_w, i32_w]
                                rfl
                              refine pure_ (i := 1) (N := some 41) (v := ?_) (a' := ?_) #[true, true, false, false, false, false, false, false, false, false, false, false, false, false, false, false, false, false, false, false, false, false, false, false] rfl rfl (any_of HT_.out (by kernel_rfl)) (fun _ _ _ h => h) (Or.inl ⟨by rfl, ?_⟩) ?_ ?_
                              rotate_left
                              · intro w'
                                go_simp
                                first | with_reducible rfl | (rw [if_neg (by have hq_ : (⟨#[123, 125, 44, 58, 42, 43, 35, 47, 59, 63, 38, 32]⟩ : ByteArray).size = 12 := rfl; simp only [ByteArray.size_append, ByteArray.size_extract, decide_eq_true_eq, Nat.min_self] at *; omega)] <;> try with_reducible rfl)
                              rotate_left
                              · simp only [Act.put, List.setIfInBounds_toArray, List.set_cons_zero, List.set_cons_succ, i64_w, i32_w]
                                rfl
                              refine pure_ (i := 2) (N := some 42) (v := ?_) (a' := ?_) #[true, true, true, false, false, false, false, false, false, false, false, false, false, false, false, false, false, false, false, false, false, false, false, false] rfl rfl (any_of HT_.out (by kernel_rfl)) (fun _ _ _ h => h) (Or.inl ⟨by rfl, ?_⟩) ?_ ?_
                              rotate_left
                              · intro w'
                                go_simp
                                first | with_reducible rfl | (rw [if_neg (by have hq_ : (⟨#[123, 125, 44, 58, 42, 43, 35, 47, 59, 63, 38, 32]⟩ : ByteArray).size = 12 := rfl; simp only [ByteArray.size_append, ByteArray.size_extract, decide_eq_true_eq, Nat.min_self] at *; omega)] <;> try with_reducible rfl)
                              rotate_left
                              · simp only [Act.put, List.setIfInBounds_toArray, List.set_cons_zero, List.set_cons_succ, i64_w, i32_w]
                                rfl
                              refine pure_ (i := 3) (N := some 43) (v := ?_) (a' := ?_) #[true, true, true, true, false, false, false, false, false, false, false, false, false, false, false, false, false, false, false, false, false, false, false, false] rfl rfl (any_of HT_.out (by kernel_rfl)) (fun _ _ _ h => h) (Or.inl ⟨by rfl, ?_⟩) ?_ ?_
                              rotate_left
                              · intro w'
                                go_simp
                                first | with_reducible rfl | (rw [if_neg (by have hq_ : (⟨#[123, 125, 44, 58, 42, 43, 35, 47, 59, 63, 38, 32]⟩ : ByteArray).size = 12 := rfl; simp only [ByteArray.size_append, ByteArray.size_extract, decide_eq_true_eq, Nat.min_self] at *; omega)] <;> try with_reducible rfl)
                              rotate_left
                              · simp only [Act.put, List.setIfInBounds_toArray, List.set_cons_zero, List.set_cons_succ, i64_w, i32_w]
                                rfl
                              refine pure_ (i := 4) (N := some 44) (v := ?_) (a' := ?_) #[true, true, true, true, true, false, false, false, false, false, false, false, false, false, false, false, false, false, false, false, false, false, false, false] rfl rfl (any_of HT_.out (by kernel_rfl)) (fun _ _ _ h => h) (Or.inl ⟨by rfl, ?_⟩) ?_ ?_
                              rotate_left
                              · intro w'
                                go_simp
                                first | with_reducible rfl | (rw [if_neg (by have hq_ : (⟨#[123, 125, 44, 58, 42, 43, 35, 47, 59, 63, 38, 32]⟩ : ByteArray).size = 12 := rfl; simp only [ByteArray.size_append, ByteArray.size_extract, decide_eq_true_eq, Nat.min_self] at *; omega)] <;> try with_reducible rfl)
                              rotate_left
                              · simp only [Act.put, List.setIfInBounds_toArray, List.set_cons_zero, List.set_cons_succ, i64_w, i32_w]
                                rfl
                              refine pure_ (i := 5) (N := some 45) (v := ?_) (a' := ?_) #[true, true, true, true, true, true, false, false, false, false, false, false, false, false, false, false, false, false, false, false, false, false, false, false] rfl rfl (any_of HT_.out (by kernel_rfl)) (fun _ _ _ h => h) (Or.inl ⟨by rfl, ?_⟩) ?_ ?_
                              rotate_left
                              · intro w'
                                go_simp
                                first | with_reducible rfl | (rw [if_neg (by have hq_ : (⟨#[123, 125, 44, 58, 42, 43, 35, 47, 59, 63, 38, 32]⟩ : ByteArray).size = 12 := rfl; simp only [ByteArray.size_append, ByteArray.size_extract, decide_eq_true_eq, Nat.min_self] at *; omega)] <;> try with_reducible rfl)
                              rotate_left
                              · simp only [Act.put, List.setIfInBounds_toArray, List.set_cons_zero, List.set_cons_succ, i64_w, i32_w]
                                rfl
                              refine pure_ (i := 6) (N := some 46) (v := ?_) (a' := ?_) #[true, true, true, true, true, true, true, false, false, false, false, false, false, false, false, false, false, false, false, false, false, false, false, false] rfl rfl (any_of HT_.out (by kernel_rfl)) (fun _ _ _ h => h) (Or.inl ⟨by rfl, ?_⟩) ?_ ?_
                              rotate_left
                              · intro w'
                                go_simp
                                first | with_reducible rfl | (rw [if_neg (by have hq_ : (⟨#[123, 125, 44, 58, 42, 43, 35, 47, 59, 63, 38, 32]⟩ : ByteArray).size = 12 := rfl; simp only [ByteArray.size_append, ByteArray.size_extract, decide_eq_true_eq, Nat.min_self] at *; omega)] <;> try with_reducible rfl)
                              rotate_left
                              · simp only [Act.put, List.setIfInBounds_toArray, List.set_cons_zero, List.set_cons_succ, i64_w, i32_w]
                                rfl
                              refine pure_ (i := 7) (N := some 47) (v := ?_) (a' := ?_) #[true, true, true, true, true, true, true, true, false, false, false, false, false, false, false, false, false, false, false, false, false, false, false, false] rfl rfl (any_of HT_.out (by kernel_rfl)) (fun _ _ _ h => h) (Or.inl ⟨by rfl, ?_⟩) ?_ ?_
                              rotate_left
                              · intro w'
                                go_simp
                                first | with_reducible rfl | (rw [if_neg (by have hq_ : (⟨#[123, 125, 44, 58, 42, 43, 35, 47, 59, 63, 38, 32]⟩ : ByteArray).size = 12 := rfl; simp only [ByteArray.size_append, ByteArray.size_extract, decide_eq_true_eq, Nat.min_self] at *; omega)] <;> try with_reducible rfl)
                              rotate_left
                              · simp only [Act.put, List.setIfInBounds_toArray, List.set_cons_zero, List.set_cons_succ, i64_w, i32_w]
                                rfl
                              refine pure_ (i := 8) (N := some 48) (v := ?_) (a' := ?_) #[true, true, true, true, true, true, true, true, true, false, false, false, false, false, false, false, false, false, false, false, false, false, false, false] rfl rfl (any_of HT_.out (by kernel_rfl)) (fun _ _ _ h => h) (Or.inl ⟨by rfl, ?_⟩) ?_ ?_
                              rotate_left
                              · intro w'
                                go_simp
                                first | with_reducible rfl | (rw [if_neg (by have hq_ : (⟨#[123, 125, 44, 58, 42, 43, 35, 47, 59, 63, 38, 32]⟩ : ByteArray).size = 12 := rfl; simp only [ByteArray.size_append, ByteArray.size_extract, decide_eq_true_eq, Nat.min_self] at *; omega)] <;> try with_reducible rfl)
                              rotate_left
                              · simp only [Act.put, List.setIfInBounds_toArray, List.set_cons_zero, List.set_cons_succ, i64_w, i32_w]
                                rfl
                              refine pure_ (i := 9) (N := some 49) (v := ?_) (a' := ?_) #[true, true, true, true, true, true, true, true, true, true, false, false, false, false, false, false, false, false, false, false, false, false, false, false] rfl rfl (any_of HT_.out (by kernel_rfl)) (fun _ _ _ h => h) (Or.inl ⟨by rfl, ?_⟩) ?_ ?_
                              rotate_left
                              · intro w'
                                go_simp
                                first | with_reducible rfl | (rw [if_neg (by have hq_ : (⟨#[123, 125, 44, 58, 42, 43, 35, 47, 59, 63, 38, 32]⟩ : ByteArray).size = 12 := rfl; simp only [ByteArray.size_append, ByteArray.size_extract, decide_eq_true_eq, Nat.min_self] at *; omega)] <;> try with_reducible rfl)
                              rotate_left
                              · simp only [Act.put, List.setIfInBounds_toArray, List.set_cons_zero, List.set_cons_succ, i64_w, i32_w]
                                rfl
                              refine pure_ (i := 10) (N := some 50) (v := ?_) (a' := ?_) #[true, true, true, true, true, true, true, true, true, true, true, false, false, false, false, false, false, false, false, false, false, false, false, false] rfl rfl (any_of HT_.out (by kernel_rfl)) (fun _ _ _ h => h) (Or.inl ⟨by rfl, ?_⟩) ?_ ?_
                              rotate_left
                              · intro w'
                                go_simp
                                first | with_reducible rfl | (rw [if_neg (by have hq_ : (⟨#[123, 125, 44, 58, 42, 43, 35, 47, 59, 63, 38, 32]⟩ : ByteArray).size = 12 := rfl; simp only [ByteArray.size_append, ByteArray.size_extract, decide_eq_true_eq, Nat.min_self] at *; omega)] <;> try with_reducible rfl)
                              rotate_left
                              · simp only [Act.put, List.setIfInBounds_toArray, List.set_cons_zero, List.set_cons_succ, i64_w, i32_w]
                                rfl
                              refine one_ (i := 11) (N := some 51) #[true, true, true, true, true, true, true, true, true, true, true, true, false, false, false, false, false, false, false, false, false, false, false, false] rfl rfl (one_of HT_.out (by kernel_rfl)) (by decide) (fun K hK => ?_)
                              refine goes_ Tryd.func10 (by kernel_rfl) rfl #[.string (((a0.extract 0 ((ji17) : Int).toNat) ++ ((⟨#[123, 125, 44, 58, 42, 43, 35, 47, 59, 63, 38, 32]⟩ : ByteArray).extract ((ji12) : Int).toNat ((wrap64 ((ji12) + 1)) : Int).toNat)) ++ (a0.extract ((ji17) : Int).toNat a0.size))] (by rfl) rfl rfl (by (try simp only [List.map_toArray, List.map_cons, List.map_nil]); first | done | (simp only [hji12, hji17]; rfl) | rfl | (simp only [List.length_drop, List.length_take]; rfl)) ?_
                              with_reducible refine (vname_May.calls (((a0.extract 0 ((ji17) : Int).toNat) ++ ((⟨#[123, 125, 44, 58, 42, 43, 35, 47, 59, 63, 38, 32]⟩ : ByteArray).extract ((ji12) : Int).toNat ((wrap64 ((ji12) + 1)) : Int).toNat)) ++ (a0.extract ((ji17) : Int).toNat a0.size)) false _ A24.out).mono ?_
                              rintro e w33 ⟨rfl, hb⟩
                              refine ⟨_, rfl, ?_⟩
                              have n0_ := Aside0.mk (below_step (by repeat (first | (with_reducible first | exact HB.out | apply below_alloc | apply pw_below_drewN | apply below_drew1) | exact HB.out)) hb)
                              clear HB
                              have HB := n0_
                              clear n0_
                              (try clear hb)
                              (try clear hb2)
                              (try clear hk)
                              (try clear hi)
                              refine hK.out _ _ trivial (fun hHeld => ?_)
                              clear hK K
                              refine norm_ (a' := ?_) ?_ ?_
                              rotate_left
                              · show Act.put _ (some 51) _ = _
                                simp only [Act.put, List.setIfInBounds_toArray, List.set_cons_zero, List.set_cons_succ, i64_w, i32_w]
                                rfl
                              refine pure_ (i := 12) (N := some 52) (v := ?_) (a' := ?_) #[true, true, true, true, true, true, true, true, true, true, true, true, true, false, false, false, false, false, false, false, false, false, false, false] rfl rfl (any_of HT_.out (by kernel_rfl)) (fun _ _ _ h => h) (Or.inl ⟨by rfl, ?_⟩) ?_ ?_
                              rotate_left
                              · intro w'
                                go_simp
                                first | with_reducible rfl | (rw [if_neg (by have hq_ : (⟨#[123, 125, 44, 58, 42, 43, 35, 47, 59, 63, 38, 32]⟩ : ByteArray).size = 12 := rfl; simp only [ByteArray.size_append, ByteArray.size_extract, decide_eq_true_eq, Nat.min_self] at *; omega)] <;> try with_reducible rfl)
                              rotate_left
                              · simp only [Act.put, List.setIfInBounds_toArray, List.set_cons_zero, List.set_cons_succ, i64_w, i32_w]
                                rfl
                              refine pure_ (i := 13) (N := some 53) (v := ?_) (a' := ?_) #[true, true, true, true, true, true, true, true, true, true, true, true, true, true, false, false, false, false, false, false, false, false, false, false] rfl rfl (any_of HT_.out (by kernel_rfl)) (fun _ _ _ h => h) (Or.inl ⟨by rfl, ?_⟩) ?_ ?_
                              rotate_left
                              · intro w'
                                go_simp
                                first | with_reducible rfl | (rw [if_neg (by have hq_ : (⟨#[123, 125, 44, 58, 42, 43, 35, 47, 59, 63, 38, 32]⟩ : ByteArray).size = 12 := rfl; simp only [ByteArray.size_append, ByteArray.size_extract, decide_eq_true_eq, Nat.min_self] at *; omega)] <;> try with_reducible rfl)
                              rotate_left
                              · simp only [Act.put, List.setIfInBounds_toArray, List.set_cons_zero, List.set_cons_succ, i64_w, i32_w]
                                rfl
                              refine pure_ (i := 14) (N := some 54) (v := ?_) (a' := ?_) #[true, true, true, true, true, true, true, true, true, true, true, true, true, true, true, false, false, false, false, false, false, false, false, false] rfl rfl (any_of HT_.out (by kernel_rfl)) (fun _ _ _ h => h) (Or.inl ⟨by rfl, ?_⟩) ?_ ?_
                              rotate_left
                              · intro w'
                                go_simp
                                first | with_reducible rfl | (rw [if_neg (by have hq_ : (⟨#[123, 125, 44, 58, 42, 43, 35, 47, 59, 63, 38, 32]⟩ : ByteArray).size = 12 := rfl; simp only [ByteArray.size_append, ByteArray.size_extract, decide_eq_true_eq, Nat.min_self] at *; omega)] <;> try with_reducible rfl)
                              rotate_left
                              · simp only [Act.put, List.setIfInBounds_toArray, List.set_cons_zero, List.set_cons_succ, i64_w, i32_w]
                                rfl
                              refine pure_ (i := 15) (N := some 55) (v := ?_) (a' := ?_) #[true, true, true, true, true, true, true, true, true, true, true, true, true, true, true, true, false, false, false, false, false, false, false, false] rfl rfl (any_of HT_.out (by kernel_rfl)) (fun _ _ _ h => h) (Or.inl ⟨by rfl, ?_⟩) ?_ ?_
                              rotate_left
                              · intro w'
                                go_simp
                                first | with_reducible rfl | (rw [if_neg (by have hq_ : (⟨#[123, 125, 44, 58, 42, 43, 35, 47, 59, 63, 38, 32]⟩ : ByteArray).size = 12 := rfl; simp only [ByteArray.size_append, ByteArray.size_extract, decide_eq_true_eq, Nat.min_self] at *; omega)] <;> try with_reducible rfl)
                              rotate_left
                              · simp only [Act.put, List.setIfInBounds_toArray, List.set_cons_zero, List.set_cons_succ, i64_w, i32_w]
                                rfl
                              refine pure_ (i := 16) (N := some 56) (v := ?_) (a' := ?_) #[true, true, true, true, true, true, true, true, true, true, true, true, true, true, true, true, true, false, false, false, false, false, false, false] rfl rfl (any_of HT_.out (by kernel_rfl)) (fun _ _ _ h => h) (Or.inl ⟨by rfl, ?_⟩) ?_ ?_
                              rotate_left
                              · intro w'
                                go_simp
                                first | with_reducible rfl | (rw [if_neg (by have hq_ : (⟨#[123, 125, 44, 58, 42, 43, 35, 47, 59, 63, 38, 32]⟩ : ByteArray).size = 12 := rfl; simp only [ByteArray.size_append, ByteArray.size_extract, decide_eq_true_eq, Nat.min_self] at *; omega)] <;> try with_reducible rfl)
                              rotate_left
                              · simp only [Act.put, List.setIfInBounds_toArray, List.set_cons_zero, List.set_cons_succ, i64_w, i32_w]
                                rfl
                              refine pure_ (i := 17) (N := some 57) (v := ?_) (a' := ?_) #[true, true, true, true, true, true, true, true, true, true, true, true, true, true, true, true, true, true, false, false, false, false, false, false] rfl rfl (any_of HT_.out (by kernel_rfl)) (fun _ _ _ h => h) (Or.inl ⟨by rfl, ?_⟩) ?_ ?_
                              rotate_left
                              · intro w'
                                go_simp
                                first | with_reducible rfl | (rw [if_neg (by have hq_ : (⟨#[123, 125, 44, 58, 42, 43, 35, 47, 59, 63, 38, 32]⟩ : ByteArray).size = 12 := rfl; simp only [ByteArray.size_append, ByteArray.size_extract, decide_eq_true_eq, Nat.min_self] at *; omega)] <;> try with_reducible rfl)
                              rotate_left
                              · simp only [Act.put, List.setIfInBounds_toArray, List.set_cons_zero, List.set_cons_succ, i64_w, i32_w]
                                rfl
                              refine pure_ (i := 19) (N := some 59) (v := ?_) (a' := ?_) #[true, true, true, true, true, true, true, true, true, true, true, true, true, true, true, true, true, true, false, true, false, false, false, false] rfl rfl (any_of HT_.out (by kernel_rfl)) (fun _ _ _ h => h) (Or.inl ⟨by rfl, ?_⟩) ?_ ?_
                              rotate_left
                              · intro w'
                                go_simp
                                first | with_reducible rfl | (rw [if_neg (by have hq_ : (⟨#[123, 125, 44, 58, 42, 43, 35, 47, 59, 63, 38, 32]⟩ : ByteArray).size = 12 := rfl; simp only [ByteArray.size_append, ByteArray.size_extract, decide_eq_true_eq, Nat.min_self] at *; omega)] <;> try with_reducible rfl)
                              rotate_left
                              · simp only [Act.put, List.setIfInBounds_toArray, List.set_cons_zero, List.set_cons_succ, i64_w, i32_w]
                                rfl
                              refine pure_ (i := 20) (N := some 60) (v := ?_) (a' := ?_) #[true, true, true, true, true, true, true, true, true, true, true, true, true, true, true, true, true, true, false, true, true, false, false, false] rfl rfl (any_of HT_.out (by kernel_rfl)) (fun _ _ _ h => h) (Or.inl ⟨by rfl, ?_⟩) ?_ ?_
                              rotate_left
                              · intro w'
                                go_simp
                                first | with_reducible rfl | (rw [if_neg (by have hq_ : (⟨#[123, 125, 44, 58, 42, 43, 35, 47, 59, 63, 38, 32]⟩ : ByteArray).size = 12 := rfl; simp only [ByteArray.size_append, ByteArray.size_extract, decide_eq_true_eq, Nat.min_self] at *; omega)] <;> try with_reducible rfl)
                              rotate_left
                              · simp only [Act.put, List.setIfInBounds_toArray, List.set_cons_zero, List.set_cons_succ, i64_w, i32_w]
                                rfl
                              refine one_ (i := 18) (N := some 58) #[true, true, true, true, true, true, true, true, true, true, true, true, true, true, true, true, true, true, true, true, true, false, false, false] rfl rfl (one_of HT_.out (by kernel_rfl)) (by decide) (fun K hK => ?_)
                              refine goes_ Tryd.func11 (by kernel_rfl) rfl #[.string (a0 ++ ((⟨#[123, 125, 44, 58, 42, 43, 35, 47, 59, 63, 38, 32]⟩ : ByteArray).extract ((ji12) : Int).toNat ((wrap64 ((ji12) + 1)) : Int).toNat))] (by rfl) rfl rfl (by (try simp only [List.map_toArray, List.map_cons, List.map_nil]); first | done | (simp only [hji12]; rfl) | rfl | (simp only [List.length_drop, List.length_take]; rfl)) ?_
                              with_reducible refine (vname_End.calls (a0 ++ ((⟨#[123, 125, 44, 58, 42, 43, 35, 47, 59, 63, 38, 32]⟩ : ByteArray).extract ((ji12) : Int).toNat ((wrap64 ((ji12) + 1)) : Int).toNat)) t121 _ A30.out).mono ?_
                              rintro e w34 ⟨rfl, hb⟩
                              refine ⟨_, rfl, ?_⟩
                              have n0_ := Aside0.mk (below_step (by repeat (first | (with_reducible first | exact HB.out | apply below_alloc | apply pw_below_drewN | apply below_drew1) | exact HB.out)) hb)
                              clear HB
                              have HB := n0_
                              clear n0_
                              (try clear hb)
                              (try clear hb2)
                              (try clear hk)
                              (try clear hi)
                              refine hK.out _ _ trivial (fun hHeld => ?_)
                              clear hK K
                              refine norm_ (a' := ?_) ?_ ?_
                              rotate_left
                              · show Act.put _ (some 58) _ = _
                                simp only [Act.put, List.setIfInBounds_toArray, List.set_cons_zero, List.set_cons_succ, i64_w, i32_w]
                                rfl
                              refine pure_ (i := 21) (N := some 61) (v := ?_) (a' := ?_) #[true, true, true, true, true, true, true, true, true, true, true, true, true, true, true, true, true, true, true, true, true, true, false, false] rfl rfl (any_of HT_.out (by kernel_rfl)) (fun _ _ _ h => h) (Or.inl ⟨by rfl, ?_⟩) ?_ ?_
                              rotate_left
                              · intro w'
                                go_simp
                                first | with_reducible rfl | (rw [if_neg (by have hq_ : (⟨#[123, 125, 44, 58, 42, 43, 35, 47, 59, 63, 38, 32]⟩ : ByteArray).size = 12 := rfl; simp only [ByteArray.size_append, ByteArray.size_extract, decide_eq_true_eq, Nat.min_self] at *; omega)] <;> try with_reducible rfl)
                              rotate_left
                              · simp only [Act.put, List.setIfInBounds_toArray, List.set_cons_zero, List.set_cons_succ, i64_w, i32_w]
                                rfl
                              refine pure_ (i := 22) (N := some 62) (v := ?_) (a' := ?_) #[true, true, true, true, true, true, true, true, true, true, true, true, true, true, true, true, true, true, true, true, true, true, true, false] rfl rfl (any_of HT_.out (by kernel_rfl)) (fun _ _ _ h => h) (Or.inl ⟨by rfl, ?_⟩) ?_ ?_
                              rotate_left
                              · intro w'
                                go_simp
                                first | with_reducible rfl | (rw [if_neg (by have hq_ : (⟨#[123, 125, 44, 58, 42, 43, 35, 47, 59, 63, 38, 32]⟩ : ByteArray).size = 12 := rfl; simp only [ByteArray.size_append, ByteArray.size_extract, decide_eq_true_eq, Nat.min_self] at *; omega)] <;> try with_reducible rfl)
                              rotate_left
                              · simp only [Act.put, List.setIfInBounds_toArray, List.set_cons_zero, List.set_cons_succ, i64_w, i32_w]
                                rfl
                              refine pure_ (i := 23) (N := some 6) (v := ?_) (a' := ?_) #[true, true, true, true, true, true, true, true, true, true, true, true, true, true, true, true, true, true, true, true, true, true, true, true] rfl rfl (any_of HT_.out (by kernel_rfl)) (fun _ _ _ h => h) (Or.inl ⟨by rfl, ?_⟩) ?_ ?_
                              rotate_left
                              · intro w'
                                go_simp
                                first | with_reducible rfl | (rw [if_neg (by have hq_ : (⟨#[123, 125, 44, 58, 42, 43, 35, 47, 59, 63, 38, 32]⟩ : ByteArray).size = 12 := rfl; simp only [ByteArray.size_append, ByteArray.size_extract, decide_eq_true_eq, Nat.min_self] at *; omega)] <;> try with_reducible rfl)
                              rotate_left
                              · simp only [Act.put, List.setIfInBounds_toArray, List.set_cons_zero, List.set_cons_succ, i64_w, i32_w]
                                rfl
                              refine done_ (done_of HT_.out (by kernel_rfl)) ?_
                              try go_wp2
                              go_ret
                              exact ⟨by first | rfl | (simp [errW_none, errW_some] <;> rfl) | (simp only [← hji12, ← hji17]; first | rfl | (simp [errW_none, errW_some] <;> rfl)) | (simp [*, errW_none, errW_some] <;> rfl), by repeat (first | (with_reducible first | exact HB.out | apply below_alloc | apply pw_below_drewN | apply below_drew1) | exact HB.out)⟩
                            · rw [if_neg c29] at H
                              exact absurd H (by simp)
                        · rw [if_neg c23] at H
                          exact absurd H (by simp)
                      · rw [if_neg c20] at H
                        exact absurd H (by simp)
                    · rw [if_neg c19] at H
                      exact absurd H (by simp)
                  · rw [if_neg c18] at H
                    exact absurd H (by simp)
                · replace c16 := Bool.eq_false_iff.mpr c16
                  subst c16
                  have H1 : (some false) = some r := by rw [if_neg (show ¬ (false = true) by decide)] at H; exact H
                  clear H
                  have H := H1
                  clear H1
                  obtain rfl := Option.some.inj H
                  try go_wp2
                  have n0_ := Aside0.mk (below_drew1 HB.out)
                  clear HB
                  have HB := n0_
                  clear n0_
                  refine start_ (n := 14) (S := fun w' => True) (ds := []) #[false, false, false, false, false, false, false, false, false, false, false, false, false, false] (by kernel_rfl) rfl rfl trivial (fun hHeld => ?_); refine with_tabW phalaropelaw05_VnameFew.tab6 phalaropelaw05_VnameFew.bits6 (fun HT_ HW_ => ?_)
                  generalize wc.drew = w35 at HB hHeld ⊢
                  refine pure_ (i := 0) (N := some 27) (v := ?_) (a' := ?_) #[true, false, false, false, false, false, false, false, false, false, false, false, false, false] rfl rfl (any_of HT_.out (by kernel_rfl)) (fun _ _ _ h => h) (Or.inl ⟨by rfl, ?_⟩) ?_ ?_
                  rotate_left
                  · intro w'
                    go_simp
                    first | with_reducible rfl | (rw [if_neg (by have hq_ : (⟨#[123, 125, 44, 58, 42, 43, 35, 47, 59, 63, 38, 32]⟩ : ByteArray).size = 12 := rfl; simp only [ByteArray.size_append, ByteArray.size_extract, decide_eq_true_eq, Nat.min_self] at *; omega)] <;> try with_reducible rfl)
                  rotate_left
                  · simp only [Act.put, List.setIfInBounds_toArray, List.set_cons_zero, List.set_cons_succ, i64_w, i32_w]
                    rfl
                  refine pure_ (i := 1) (N := some 28) (v := ?_) (a' := ?_) #[true, true, false, false, false, false, false, false, false, false, false, false, false, false] rfl rfl (any_of HT_.out (by kernel_rfl)) (fun _ _ _ h => h) (Or.inl ⟨by rfl, ?_⟩) ?_ ?_
                  rotate_left
                  · intro w'
                    go_simp
                    first | with_reducible rfl | (rw [if_neg (by have hq_ : (⟨#[123, 125, 44, 58, 42, 43, 35, 47, 59, 63, 38, 32]⟩ : ByteArray).size = 12 := rfl; simp only [ByteArray.size_append, ByteArray.size_extract, decide_eq_true_eq, Nat.min_self] at *; omega)] <;> try with_reducible rfl)
                  rotate_left
                  · simp only [Act.put, List.setIfInBounds_toArray, List.set_cons_zero, List.set_cons_succ, i64_w, i32_w]
                    rfl
                  refine pure_ (i := 2) (N := some 29) (v := ?_) (a' := ?_) #[true, true, true, false, false, false, false, false, false, false, false, false, false, false] rfl rfl (any_of HT_.out (by kernel_rfl)) (fun _ _ _ h => h) (Or.inl ⟨by rfl, ?_⟩) ?_ ?_
                  rotate_left
                  · intro w'
                    go_simp
                    first | with_reducible rfl | (rw [if_neg (by have hq_ : (⟨#[123, 125, 44, 58, 42, 43, 35, 47, 59, 63, 38, 32]⟩ : ByteArray).size = 12 := rfl; simp only [ByteArray.size_append, ByteArray.size_extract, decide_eq_true_eq, Nat.min_self] at *; omega)] <;> try with_reducible rfl)
                  rotate_left
                  · simp only [Act.put, List.setIfInBounds_toArray, List.set_cons_zero, List.set_cons_succ, i64_w, i32_w]
                    rfl
                  refine pure_ (i := 3) (N := some 30) (v := ?_) (a' := ?_) #[true, true, true, true, false, false, false, false, false, false, false, false, false, false] rfl rfl (any_of HT_.out (by kernel_rfl)) (fun _ _ _ h => h) (Or.inl ⟨by rfl, ?_⟩) ?_ ?_
                  rotate_left
                  · intro w'
                    go_simp
                    first | with_reducible rfl | (rw [if_neg (by have hq_ : (⟨#[123, 125, 44, 58, 42, 43, 35, 47, 59, 63, 38, 32]⟩ : ByteArray).size = 12 := rfl; simp only [ByteArray.size_append, ByteArray.size_extract, decide_eq_true_eq, Nat.min_self] at *; omega)] <;> try with_reducible rfl)
                  rotate_left
                  · simp only [Act.put, List.setIfInBounds_toArray, List.set_cons_zero, List.set_cons_succ, i64_w, i32_w]
                    rfl
                  refine pure_ (i := 4) (N := some 31) (v := ?_) (a' := ?_) #[true, true, true, true, true, false, false, false, false, false, false, false, false, false] rfl rfl (any_of HT_.out (by kernel_rfl)) (fun _ _ _ h => h) (Or.inl ⟨by rfl, ?_⟩) ?_ ?_
                  rotate_left
                  · intro w'
                    go_simp
                    first | with_reducible rfl | (rw [if_neg (by have hq_ : (⟨#[123, 125, 44, 58, 42, 43, 35, 47, 59, 63, 38, 32]⟩ : ByteArray).size = 12 := rfl; simp only [ByteArray.size_append, ByteArray.size_extract, decide_eq_true_eq, Nat.min_self] at *; omega)] <;> try with_reducible rfl)
                  rotate_left
                  · simp only [Act.put, List.setIfInBounds_toArray, List.set_cons_zero, List.set_cons_succ, i64_w, i32_w]
                    rfl
                  refine pure_ (i := 5) (N := some 32) (v := ?_) (a' := ?_) #[true, true, true, true, true, true, false, false, false, false, false, false, false, false] rfl rfl (any_of HT_.out (by kernel_rfl)) (fun _ _ _ h => h) (Or.inl ⟨by rfl, ?_⟩) ?_ ?_
                  rotate_left
                  · intro w'
                    go_simp
                    first | with_reducible rfl | (rw [if_neg (by have hq_ : (⟨#[123, 125, 44, 58, 42, 43, 35, 47, 59, 63, 38, 32]⟩ : ByteArray).size = 12 := rfl; simp only [ByteArray.size_append, ByteArray.size_extract, decide_eq_true_eq, Nat.min_self] at *; omega)] <;> try with_reducible rfl)
                  rotate_left
                  · simp only [Act.put, List.setIfInBounds_toArray, List.set_cons_zero, List.set_cons_succ, i64_w, i32_w]
                    rfl
                  refine pure_ (i := 6) (N := some 33) (v := ?_) (a' := ?_) #[true, true, true, true, true, true, true, false, false, false, false, false, false, false] rfl rfl (any_of HT_.out (by kernel_rfl)) (fun _ _ _ h => h) (Or.inl ⟨by rfl, ?_⟩) ?_ ?_
                  rotate_left
                  · intro w'
                    go_simp
                    first | with_reducible rfl | (rw [if_neg (by have hq_ : (⟨#[123, 125, 44, 58, 42, 43, 35, 47, 59, 63, 38, 32]⟩ : ByteArray).size = 12 := rfl; simp only [ByteArray.size_append, ByteArray.size_extract, decide_eq_true_eq, Nat.min_self] at *; omega)] <;> try with_reducible rfl)
                  rotate_left
                  · simp only [Act.put, List.setIfInBounds_toArray, List.set_cons_zero, List.set_cons_succ, i64_w, i32_w]
                    rfl
                  refine pure_ (i := 7) (N := some 34) (v := ?_) (a' := ?_) #[true, true, true, true, true, true, true, true, false, false, false, false, false, false] rfl rfl (any_of HT_.out (by kernel_rfl)) (fun _ _ _ h => h) (Or.inl ⟨by rfl, ?_⟩) ?_ ?_
                  rotate_left
                  · intro w'
                    go_simp
                    first | with_reducible rfl | (rw [if_neg (by have hq_ : (⟨#[123, 125, 44, 58, 42, 43, 35, 47, 59, 63, 38, 32]⟩ : ByteArray).size = 12 := rfl; simp only [ByteArray.size_append, ByteArray.size_extract, decide_eq_true_eq, Nat.min_self] at *; omega)] <;> try with_reducible rfl)
                  rotate_left
                  · simp only [Act.put, List.setIfInBounds_toArray, List.set_cons_zero, List.set_cons_succ, i64_w, i32_w]
                    rfl
                  refine pure_ (i := 8) (N := some 35) (v := ?_) (a' := ?_) #[true, true, true, true, true, true, true, true, true, false, false, false, false, false] rfl rfl (any_of HT_.out (by kernel_rfl)) (fun _ _ _ h => h) (Or.inl ⟨by rfl, ?_⟩) ?_ ?_
                  rotate_left
                  · intro w'
                    go_simp
                    first | with_reducible rfl | (rw [if_neg (by have hq_ : (⟨#[123, 125, 44, 58, 42, 43, 35, 47, 59, 63, 38, 32]⟩ : ByteArray).size = 12 := rfl; simp only [ByteArray.size_append, ByteArray.size_extract, decide_eq_true_eq, Nat.min_self] at *; omega)] <;> try with_reducible rfl)
                  rotate_left
                  · simp only [Act.put, List.setIfInBounds_toArray, List.set_cons_zero, List.set_cons_succ, i64_w, i32_w]
                    rfl
                  refine pure_ (i := 9) (N := some 36) (v := ?_) (a' := ?_) #[true, true, true, true, true, true, true, true, true, true, false, false, false, false] rfl rfl (any_of HT_.out (by kernel_rfl)) (fun _ _ _ h => h) (Or.inl ⟨by rfl, ?_⟩) ?_ ?_
                  rotate_left
                  · intro w'
                    go_simp
                    first | with_reducible rfl | (rw [if_neg (by have hq_ : (⟨#[123, 125, 44, 58, 42, 43, 35, 47, 59, 63, 38, 32]⟩ : ByteArray).size = 12 := rfl; simp only [ByteArray.size_append, ByteArray.size_extract, decide_eq_true_eq, Nat.min_self] at *; omega)] <;> try with_reducible rfl)
                  rotate_left
                  · simp only [Act.put, List.setIfInBounds_toArray, List.set_cons_zero, List.set_cons_succ, i64_w, i32_w]
                    rfl
                  refine pure_ (i := 10) (N := some 37) (v := ?_) (a' := ?_) #[true, true, true, true, true, true, true, true, true, true, true, false, false, false] rfl rfl (any_of HT_.out (by kernel_rfl)) (fun _ _ _ h => h) (Or.inl ⟨by rfl, ?_⟩) ?_ ?_
                  rotate_left
                  · intro w'
                    go_simp
                    first | with_reducible rfl | (rw [if_neg (by have hq_ : (⟨#[123, 125, 44, 58, 42, 43, 35, 47, 59, 63, 38, 32]⟩ : ByteArray).size = 12 := rfl; simp only [ByteArray.size_append, ByteArray.size_extract, decide_eq_true_eq, Nat.min_self] at *; omega)] <;> try with_reducible rfl)
                  rotate_left
                  · simp only [Act.put, List.setIfInBounds_toArray, List.set_cons_zero, List.set_cons_succ, i64_w, i32_w]
                    rfl
                  refine pure_ (i := 11) (N := some 38) (v := ?_) (a' := ?_) #[true, true, true, true, true, true, true, true, true, true, true, true, false, false] rfl rfl (any_of HT_.out (by kernel_rfl)) (fun _ _ _ h => h) (Or.inl ⟨by rfl, ?_⟩) ?_ ?_
                  rotate_left
                  · intro w'
                    go_simp
                    first | with_reducible rfl | (rw [if_neg (by have hq_ : (⟨#[123, 125, 44, 58, 42, 43, 35, 47, 59, 63, 38, 32]⟩ : ByteArray).size = 12 := rfl; simp only [ByteArray.size_append, ByteArray.size_extract, decide_eq_true_eq, Nat.min_self] at *; omega)] <;> try with_reducible rfl)
                  rotate_left
                  · simp only [Act.put, List.setIfInBounds_toArray, List.set_cons_zero, List.set_cons_succ, i64_w, i32_w]
                    rfl
                  refine pure_ (i := 12) (N := some 39) (v := ?_) (a' := ?_) #[true, true, true, true, true, true, true, true, true, true, true, true, true, false] rfl rfl (any_of HT_.out (by kernel_rfl)) (fun _ _ _ h => h) (Or.inl ⟨by rfl, ?_⟩) ?_ ?_
                  rotate_left
                  · intro w'
                    go_simp
                    first | with_reducible rfl | (rw [if_neg (by have hq_ : (⟨#[123, 125, 44, 58, 42, 43, 35, 47, 59, 63, 38, 32]⟩ : ByteArray).size = 12 := rfl; simp only [ByteArray.size_append, ByteArray.size_extract, decide_eq_true_eq, Nat.min_self] at *; omega)] <;> try with_reducible rfl)
                  rotate_left
                  · simp only [Act.put, List.setIfInBounds_toArray, List.set_cons_zero, List.set_cons_succ, i64_w, i32_w]
                    rfl
                  refine pure_ (i := 13) (N := some 10) (v := ?_) (a' := ?_) #[true, true, true, true, true, true, true, true, true, true, true, true, true, true] rfl rfl (any_of HT_.out (by kernel_rfl)) (fun _ _ _ h => h) (Or.inl ⟨by rfl, ?_⟩) ?_ ?_
                  rotate_left
                  · intro w'
                    go_simp
                    first | with_reducible rfl | (rw [if_neg (by have hq_ : (⟨#[123, 125, 44, 58, 42, 43, 35, 47, 59, 63, 38, 32]⟩ : ByteArray).size = 12 := rfl; simp only [ByteArray.size_append, ByteArray.size_extract, decide_eq_true_eq, Nat.min_self] at *; omega)] <;> try with_reducible rfl)
                  rotate_left
                  · simp only [Act.put, List.setIfInBounds_toArray, List.set_cons_zero, List.set_cons_succ, i64_w, i32_w]
                    rfl
                  refine done_ (done_of HT_.out (by kernel_rfl)) ?_
                  try go_wp2
                  have n0_ := Aside0.mk (below_drew1 HB.out)
                  clear HB
                  have HB := n0_
                  clear n0_
                  refine start_ (n := 24) (S := fun w' => True) (ds := []) #[false, false, false, false, false, false, false, false, false, false, false, false, false, false, false, false, false, false, false, false, false, false, false, false] (by kernel_rfl) rfl rfl trivial (fun hHeld => ?_); refine with_tabW phalaropelaw05_VnameFew.tab7 phalaropelaw05_VnameFew.bits7 (fun HT_ HW_ => ?_)
                  generalize w35.drew = w36 at HB hHeld ⊢
                  refine pure_ (i := 0) (N := some 40) (v := ?_) (a' := ?_) #[true, false, false, false, false, false, false, false, false, false, false, false, false, false, false, false, false, false, false, false, false, false, false, false] rfl rfl (any_of HT_.out (by kernel_rfl)) (fun _ _ _ h => h) (Or.inl ⟨by rfl, ?_⟩) ?_ ?_
                  rotate_left
                  · intro w'
                    go_simp
                    first | with_reducible rfl | (rw [if_neg (by have hq_ : (⟨#[123, 125, 44, 58, 42, 43, 35, 47, 59, 63, 38, 32]⟩ : ByteArray).size = 12 := rfl; simp only [ByteArray.size_append, ByteArray.size_extract, decide_eq_true_eq, Nat.min_self] at *; omega)] <;> try with_reducible rfl)
                  rotate_left
                  · simp only [Act.put, List.setIfInBounds_toArray, List.set_cons_zero, List.set_cons_succ, i64_w, i32_w]
                    rfl
                  refine pure_ (i := 1) (N := some 41) (v := ?_) (a' := ?_) #[true, true, false, false, false, false, false, false, false, false, false, false, false, false, false, false, false, false, false, false, false, false, false, false] rfl rfl (any_of HT_.out (by kernel_rfl)) (fun _ _ _ h => h) (Or.inl ⟨by rfl, ?_⟩) ?_ ?_
                  rotate_left
                  · intro w'
                    go_simp
                    first | with_reducible rfl | (rw [if_neg (by have hq_ : (⟨#[123, 125, 44, 58, 42, 43, 35, 47, 59, 63, 38, 32]⟩ : ByteArray).size = 12 := rfl; simp only [ByteArray.size_append, ByteArray.size_extract, decide_eq_true_eq, Nat.min_self] at *; omega)] <;> try with_reducible rfl)
                  rotate_left
                  · simp only [Act.put, List.setIfInBounds_toArray, List.set_cons_zero, List.set_cons_succ, i64_w, i32_w]
                    rfl
                  refine pure_ (i := 2) (N := some 42) (v := undef) (a' := ?_) #[true, true, true, false, false, false, false, false, false, false, false, false, false, false, false, false, false, false, false, false, false, false, false, false] rfl rfl (any_of HT_.out (by kernel_rfl)) (fun _ _ _ h => h) (Or.inr ⟨by rfl, rfl⟩) ?_ ?_
                  rotate_left
                  · simp only [Act.put, List.setIfInBounds_toArray, List.set_cons_zero, List.set_cons_succ, i64_w, i32_w]
                    rfl
                  refine pure_ (i := 3) (N := some 43) (v := undef) (a' := ?_) #[true, true, true, true, false, false, false, false, false, false, false, false, false, false, false, false, false, false, false, false, false, false, false, false] rfl rfl (any_of HT_.out (by kernel_rfl)) (fun _ _ _ h => h) (Or.inr ⟨by rfl, rfl⟩) ?_ ?_
                  rotate_left
                  · simp only [Act.put, List.setIfInBounds_toArray, List.set_cons_zero, List.set_cons_succ, i64_w, i32_w]
                    rfl
                  refine pure_ (i := 4) (N := some 44) (v := undef) (a' := ?_) #[true, true, true, true, true, false, false, false, false, false, false, false, false, false, false, false, false, false, false, false, false, false, false, false] rfl rfl (any_of HT_.out (by kernel_rfl)) (fun _ _ _ h => h) (Or.inr ⟨by rfl, rfl⟩) ?_ ?_
                  rotate_left
                  · simp only [Act.put, List.setIfInBounds_toArray, List.set_cons_zero, List.set_cons_succ, i64_w, i32_w]
                    rfl
                  refine pure_ (i := 5) (N := some 45) (v := undef) (a' := ?_) #[true, true, true, true, true, true, false, false, false, false, false, false, false, false, false, false, false, false, false, false, false, false, false, false] rfl rfl (any_of HT_.out (by kernel_rfl)) (fun _ _ _ h => h) (Or.inr ⟨by rfl, rfl⟩) ?_ ?_
                  rotate_left
                  · simp only [Act.put, List.setIfInBounds_toArray, List.set_cons_zero, List.set_cons_succ, i64_w, i32_w]
                    rfl
                  refine pure_ (i := 6) (N := some 46) (v := undef) (a' := ?_) #[true, true, true, true, true, true, true, false, false, false, false, false, false, false, false, false, false, false, false, false, false, false, false, false] rfl rfl (any_of HT_.out (by kernel_rfl)) (fun _ _ _ h => h) (Or.inr ⟨by rfl, rfl⟩) ?_ ?_
                  rotate_left
                  · simp only [Act.put, List.setIfInBounds_toArray, List.set_cons_zero, List.set_cons_succ, i64_w, i32_w]
                    rfl
                  refine pure_ (i := 7) (N := some 47) (v := undef) (a' := ?_) #[true, true, true, true, true, true, true, true, false, false, false, false, false, false, false, false, false, false, false, false, false, false, false, false] rfl rfl (any_of HT_.out (by kernel_rfl)) (fun _ _ _ h => h) (Or.inr ⟨by rfl, rfl⟩) ?_ ?_
                  rotate_left
                  · simp only [Act.put, List.setIfInBounds_toArray, List.set_cons_zero, List.set_cons_succ, i64_w, i32_w]
                    rfl
                  refine pure_ (i := 8) (N := some 48) (v := undef) (a' := ?_) #[true, true, true, true, true, true, true, true, true, false, false, false, false, false, false, false, false, false, false, false, false, false, false, false] rfl rfl (any_of HT_.out (by kernel_rfl)) (fun _ _ _ h => h) (Or.inr ⟨by rfl, rfl⟩) ?_ ?_
                  rotate_left
                  · simp only [Act.put, List.setIfInBounds_toArray, List.set_cons_zero, List.set_cons_succ, i64_w, i32_w]
                    rfl
                  refine pure_ (i := 9) (N := some 49) (v := undef) (a' := ?_) #[true, true, true, true, true, true, true, true, true, true, false, false, false, false, false, false, false, false, false, false, false, false, false, false] rfl rfl (any_of HT_.out (by kernel_rfl)) (fun _ _ _ h => h) (Or.inr ⟨by rfl, rfl⟩) ?_ ?_
                  rotate_left
                  · simp only [Act.put, List.setIfInBounds_toArray, List.set_cons_zero, List.set_cons_succ, i64_w, i32_w]
                    rfl
                  refine pure_ (i := 10) (N := some 50) (v := undef) (a' := ?_) #[true, true, true, true, true, true, true, true, true, true, true, false, false, false, false, false, false, false, false, false, false, false, false, false] rfl rfl (any_of HT_.out (by kernel_rfl)) (fun _ _ _ h => h) (Or.inr ⟨by rfl, rfl⟩) ?_ ?_
                  rotate_left
                  · simp only [Act.put, List.setIfInBounds_toArray, List.set_cons_zero, List.set_cons_succ, i64_w, i32_w]
                    rfl
                  refine pure_ (i := 11) (N := some 51) (v := undef) (a' := ?_) #[true, true, true, true, true, true, true, true, true, true, true, true, false, false, false, false, false, false, false, false, false, false, false, false] rfl rfl (any_of HT_.out (by kernel_rfl)) (fun _ _ _ h => h) (Or.inr ⟨by rfl, rfl⟩) ?_ ?_
                  rotate_left
                  · simp only [Act.put, List.setIfInBounds_toArray, List.set_cons_zero, List.set_cons_succ, i64_w, i32_w]
                    rfl
                  refine pure_ (i := 12) (N := some 52) (v := undef) (a' := ?_) #[true, true, true, true, true, true, true, true, true, true, true, true, true, false, false, false, false, false, false, false, false, false, false, false] rfl rfl (any_of HT_.out (by kernel_rfl)) (fun _ _ _ h => h) (Or.inr ⟨by rfl, rfl⟩) ?_ ?_
                  rotate_left
                  · simp only [Act.put, List.setIfInBounds_toArray, List.set_cons_zero, List.set_cons_succ, i64_w, i32_w]
                    rfl
                  refine pure_ (i := 13) (N := some 53) (v := ?_) (a' := ?_) #[true, true, true, true, true, true, true, true, true, true, true, true, true, true, false, false, false, false, false, false, false, false, false, false] rfl rfl (any_of HT_.out (by kernel_rfl)) (fun _ _ _ h => h) (Or.inl ⟨by rfl, ?_⟩) ?_ ?_
                  rotate_left
                  · intro w'
                    go_simp
                    first | with_reducible rfl | (rw [if_neg (by have hq_ : (⟨#[123, 125, 44, 58, 42, 43, 35, 47, 59, 63, 38, 32]⟩ : ByteArray).size = 12 := rfl; simp only [ByteArray.size_append, ByteArray.size_extract, decide_eq_true_eq, Nat.min_self] at *; omega)] <;> try with_reducible rfl)
                  rotate_left
                  · simp only [Act.put, List.setIfInBounds_toArray, List.set_cons_zero, List.set_cons_succ, i64_w, i32_w]
                    rfl
                  refine pure_ (i := 14) (N := some 54) (v := ?_) (a' := ?_) #[true, true, true, true, true, true, true, true, true, true, true, true, true, true, true, false, false, false, false, false, false, false, false, false] rfl rfl (any_of HT_.out (by kernel_rfl)) (fun _ _ _ h => h) (Or.inl ⟨by rfl, ?_⟩) ?_ ?_
                  rotate_left
                  · intro w'
                    go_simp
                    first | with_reducible rfl | (rw [if_neg (by have hq_ : (⟨#[123, 125, 44, 58, 42, 43, 35, 47, 59, 63, 38, 32]⟩ : ByteArray).size = 12 := rfl; simp only [ByteArray.size_append, ByteArray.size_extract, decide_eq_true_eq, Nat.min_self] at *; omega)] <;> try with_reducible rfl)
                  rotate_left
                  · simp only [Act.put, List.setIfInBounds_toArray, List.set_cons_zero, List.set_cons_succ, i64_w, i32_w]
                    rfl
                  refine pure_ (i := 15) (N := some 55) (v := undef) (a' := ?_) #[true, true, true, true, true, true, true, true, true, true, true, true, true, true, true, true, false, false, false, false, false, false, false, false] rfl rfl (any_of HT_.out (by kernel_rfl)) (fun _ _ _ h => h) (Or.inr ⟨by rfl, rfl⟩) ?_ ?_
                  rotate_left
                  · simp only [Act.put, List.setIfInBounds_toArray, List.set_cons_zero, List.set_cons_succ, i64_w, i32_w]
                    rfl
                  refine pure_ (i := 16) (N := some 56) (v := undef) (a' := ?_) #[true, true, true, true, true, true, true, true, true, true, true, true, true, true, true, true, true, false, false, false, false, false, false, false] rfl rfl (any_of HT_.out (by kernel_rfl)) (fun _ _ _ h => h) (Or.inr ⟨by rfl, rfl⟩) ?_ ?_
                  rotate_left
                  · simp only [Act.put, List.setIfInBounds_toArray, List.set_cons_zero, List.set_cons_succ, i64_w, i32_w]
                    rfl
                  refine pure_ (i := 17) (N := some 57) (v := undef) (a' := ?_) #[true, true, true, true, true, true, true, true, true, true, true, true, true, true, true, true, true, true, false, false, false, false, false, false] rfl rfl (any_of HT_.out (by kernel_rfl)) (fun _ _ _ h => h) (Or.inr ⟨by rfl, rfl⟩) ?_ ?_
                  rotate_left
                  · simp only [Act.put, List.setIfInBounds_toArray, List.set_cons_zero, List.set_cons_succ, i64_w, i32_w]
                    rfl
                  refine pure_ (i := 18) (N := some 58) (v := undef) (a' := ?_) #[true, true, true, true, true, true, true, true, true, true, true, true, true, true, true, true, true, true, true, false, false, false, false, false] rfl rfl (any_of HT_.out (by kernel_rfl)) (fun _ _ _ h => h) (Or.inr ⟨by rfl, rfl⟩) ?_ ?_
                  rotate_left
                  · simp only [Act.put, List.setIfInBounds_toArray, List.set_cons_zero, List.set_cons_succ, i64_w, i32_w]
                    rfl
                  refine pure_ (i := 19) (N := some 59) (v := undef) (a' := ?_) #[true, true, true, true, true, true, true, true, true, true, true, true, true, true, true, true, true, true, true, true, false, false, false, false] rfl rfl (any_of HT_.out (by kernel_rfl)) (fun _ _ _ h => h) (Or.inr ⟨by rfl, rfl⟩) ?_ ?_
                  rotate_left
                  · simp only [Act.put, List.setIfInBounds_toArray, List.set_cons_zero, List.set_cons_succ, i64_w, i32_w]
                    rfl
                  refine pure_ (i := 20) (N := some 60) (v := undef) (a' := ?_) #[true, true, true, true, true, true, true, true, true, true, true, true, true, true, true, true, true, true, true, true, true, false, false, false] rfl rfl (any_of HT_.out (by kernel_rfl)) (fun _ _ _ h => h) (Or.inr ⟨by rfl, rfl⟩) ?_ ?_
                  rotate_left
                  · simp only [Act.put, List.setIfInBounds_toArray, List.set_cons_zero, List.set_cons_succ, i64_w, i32_w]
                    rfl
                  refine pure_ (i := 21) (N := some 61) (v := undef) (a' := ?_) #[true, true, true, true, true, true, true, true, true, true, true, true, true, true, true, true, true, true, true, true, true, true, false, false] rfl rfl (any_of HT_.out (by kernel_rfl)) (fun _ _ _ h => h) (Or.inr ⟨by rfl, rfl⟩) ?_ ?_
                  rotate_left
                  · simp only [Act.put, List.setIfInBounds_toArray, List.set_cons_zero, List.set_cons_succ, i64_w, i32_w]
                    rfl
                  refine pure_ (i := 22) (N := some 62) (v := ?_) (a' := ?_) #[true, true, true, true, true, true, true, true, true, true, true, true, true, true, true, true, true, true, true, true, true, true, true, false] rfl rfl (any_of HT_.out (by kernel_rfl)) (fun _ _ _ h => h) (Or.inl ⟨by rfl, ?_⟩) ?_ ?_
                  rotate_left
                  · intro w'
                    go_simp
                    first | with_reducible rfl | (rw [if_neg (by have hq_ : (⟨#[123, 125, 44, 58, 42, 43, 35, 47, 59, 63, 38, 32]⟩ : ByteArray).size = 12 := rfl; simp only [ByteArray.size_append, ByteArray.size_extract, decide_eq_true_eq, Nat.min_self] at *; omega)] <;> try with_reducible rfl)
                  rotate_left
                  · simp only [Act.put, List.setIfInBounds_toArray, List.set_cons_zero, List.set_cons_succ, i64_w, i32_w]
                    rfl
                  refine pure_ (i := 23) (N := some 6) (v := ?_) (a' := ?_) #[true, true, true, true, true, true, true, true, true, true, true, true, true, true, true, true, true, true, true, true, true, true, true, true] rfl rfl (any_of HT_.out (by kernel_rfl)) (fun _ _ _ h => h) (Or.inl ⟨by rfl, ?_⟩) ?_ ?_
                  rotate_left
                  · intro w'
                    go_simp
                    first | with_reducible rfl | (rw [if_neg (by have hq_ : (⟨#[123, 125, 44, 58, 42, 43, 35, 47, 59, 63, 38, 32]⟩ : ByteArray).size = 12 := rfl; simp only [ByteArray.size_append, ByteArray.size_extract, decide_eq_true_eq, Nat.min_self] at *; omega)] <;> try with_reducible rfl)
                  rotate_left
                  · simp only [Act.put, List.setIfInBounds_toArray, List.set_cons_zero, List.set_cons_succ, i64_w, i32_w]
                    rfl
                  refine done_ (done_of HT_.out (by kernel_rfl)) ?_
                  try go_wp2
                  go_ret
                  exact ⟨by first | rfl | (simp [errW_none, errW_some] <;> rfl) | (simp only [← hji12]; first | rfl | (simp [errW_none, errW_some] <;> rfl)) | (simp [*, errW_none, errW_some] <;> rfl), by repeat (first | (with_reducible first | exact HB.out | apply below_alloc | apply pw_below_drewN | apply below_drew1) | exact HB.out)⟩
              · rw [if_neg c15] at H
                exact absurd H (by simp)
            · rw [if_neg c14] at H
              exact absurd H (by simp)
          · rw [if_neg c13] at H
            exact absurd H (by simp)

/-- THE ONE PURE STATEMENT of phalaropelaw05_VnameFew: yours. -/
def phalaropelaw05_VnameFew.Pure : Prop := ∀ (a0 : ByteArray) (a1 : Int) (a2 : Int), a0.size ≤ 140737488351232 → (Lit.int .u8 a1).wf = true → (Lit.int .u8 a2).wf = true → ∃ k, phalaropelaw05_VnameFew.f k a0 a1 a2 = some true
theorem phalaropelaw05_VnameFew.walk (P : phalaropelaw05_VnameFew.Pure) (a0 : ByteArray) (a1 : Int) (a2 : Int) (w : World) (w0 : a0.size ≤ 140737488351232) (w1 : (Lit.int .u8 a1).wf = true) (w2 : (Lit.int .u8 a2).wf = true) :
    Calls Tryd.prog 3 #[.string a0, .int .u8 a1, .int .u8 a2] w fun e w' => e = .returned (.bool true) ∧ Below w.heap.size w w' := by
  obtain ⟨k, h⟩ := P a0 a1 a2 w0 w1 w2
  refine (phalaropelaw05_VnameFew.calls k a0 a1 a2 true w h).mono ?_
  rintro e w' ⟨rfl, hd⟩
  exact ⟨rfl, hd⟩

end Go.Proofs.YtmondgamackcgaaDoor.PVn
