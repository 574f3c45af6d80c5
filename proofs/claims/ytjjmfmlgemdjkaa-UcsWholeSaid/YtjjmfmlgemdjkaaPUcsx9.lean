-- PRINTED by print.py (a twelfth state) out of the translation. Not trusted: Lean checks it.
import Derived.Test.YtjjmfmlgemdjkaaPUcsx0
import Derived.Test.YtjjmfmlgemdjkaaPUcsx1
namespace Go.Proofs.Ytjjmfmlgemdjkaa.PUcs
open Go.RowKit Go.Proofs.YtjjmfmlgemdjkaaW.PrintWords Go.Proofs.YtjjmfmlgemdjkaaW.PrintLast Go.Proofs.YtjjmfmlgemdjkaaW.PrintMore
attribute [local go_sem] max2_int min2_int max_two min_two max_three min_three max_four min_four   -- for this text's walks alone
set_option linter.unusedVariables false
set_option linter.unusedSimpArgs false

/-! ### phalaropelaw04_UcsWhole: function 12 -/
mutual
def phalaropelaw04_UcsWhole.j0 : Nat → ByteArray → Bool → Bool → Option (Bool)
  | 0, _, _, _ => none
  | k + 1, x0, x3, x16 => if x16 = true then (some x3) else (phalaropelaw04_UcsWhole.l0 k x0 x3 false 0)
def phalaropelaw04_UcsWhole.l0 : Nat → ByteArray → Bool → Bool → Int → Option (Bool)
  | 0, _, _, _, _ => none
  | k + 1, x0, x3, x4, x5 => if x5 < 256 then (if x4 = true then (phalaropelaw04_UcsWhole.l0 k x0 x3 true (wrap64 (x5 + 1))) else ((some (([(x5) % 256] : List Int) : List Int)).bind fun y236 => (if x0.size + (strOfNums y236).size ≤ 9223372036854775807 then ((ucs_Fits.f k (x0 ++ (strOfNums y236))).bind fun t239 => (phalaropelaw04_UcsWhole.l0 k x0 x3 t239 (wrap64 (x5 + 1)))) else (none)))) else ((ucs_Take.f k x0).bind fun bt240 => (if x3 = true then (if (x4 == (bt240.2 == 0)) = true then (if bt240.2 = 0 then (some true) else (some (bt240.2 == (x0.size : Int)))) else (some false)) else (some false)))
end
def phalaropelaw04_UcsWhole.f (k : Nat) (a0 : ByteArray) : Option (Bool) := (phalaropelaw04_awake.f k).bind fun t234 => (if (a0.size : Int) > 1000 then (phalaropelaw04_UcsWhole.j0 k a0 t234 true) else ((ucs_Fits.f k a0).bind fun t235 => (phalaropelaw04_UcsWhole.j0 k a0 t234 (!t235))))
theorem phalaropelaw04_UcsWhole.mono_l : ∀ k, (∀ y0 y1 y2, LeO (phalaropelaw04_UcsWhole.j0 k y0 y1 y2) (phalaropelaw04_UcsWhole.j0 (k + 1) y0 y1 y2)) ∧ (∀ y0 y1 y2 y3, LeO (phalaropelaw04_UcsWhole.l0 k y0 y1 y2 y3) (phalaropelaw04_UcsWhole.l0 (k + 1) y0 y1 y2 y3))
  | 0 => ⟨fun _ _ _ r h => by simp [phalaropelaw04_UcsWhole.j0] at h, fun _ _ _ _ r h => by simp [phalaropelaw04_UcsWhole.l0] at h⟩
  | k + 1 => by
    obtain ⟨ih0, ih1⟩ := phalaropelaw04_UcsWhole.mono_l k
    refine ⟨?_, ?_⟩
    · intro y0 y1 y2
      unfold phalaropelaw04_UcsWhole.j0
      repeat' first
      | (with_reducible exact ih0 _ _ _)
      | (with_reducible exact ih1 _ _ _ _)
      | (with_reducible exact phalaropelaw04_awake.mono _)
      | (with_reducible exact ucs_Fits.mono _ _)
      | (with_reducible exact ucs_Take.mono _ _)
      | (with_reducible exact LeO.refl _)
      | (with_reducible exact LeO.none _)
      | (with_reducible refine LeO.ite ?_ ?_)
      | (with_reducible refine LeO.bind ?_ (fun _ => ?_))
      | exact ih0 _ _ _
      | exact ih1 _ _ _ _
      | exact phalaropelaw04_awake.mono _
      | exact ucs_Fits.mono _ _
      | exact ucs_Take.mono _ _
      | exact LeO.none _
      | refine LeO.ite ?_ ?_
      | refine LeO.bind ?_ (fun _ => ?_)
    · intro y0 y1 y2 y3
      unfold phalaropelaw04_UcsWhole.l0
      repeat' first
      | (with_reducible exact ih0 _ _ _)
      | (with_reducible exact ih1 _ _ _ _)
      | (with_reducible exact phalaropelaw04_awake.mono _)
      | (with_reducible exact ucs_Fits.mono _ _)
      | (with_reducible exact ucs_Take.mono _ _)
      | (with_reducible exact LeO.refl _)
      | (with_reducible exact LeO.none _)
      | (with_reducible refine LeO.ite ?_ ?_)
      | (with_reducible refine LeO.bind ?_ (fun _ => ?_))
      | exact ih0 _ _ _
      | exact ih1 _ _ _ _
      | exact phalaropelaw04_awake.mono _
      | exact ucs_Fits.mono _ _
      | exact ucs_Take.mono _ _
      | exact LeO.none _
      | refine LeO.ite ?_ ?_
      | refine LeO.bind ?_ (fun _ => ?_)
theorem phalaropelaw04_UcsWhole.mono : ∀ a0 k, LeO (phalaropelaw04_UcsWhole.f k a0) (phalaropelaw04_UcsWhole.f (k + 1) a0) := by
  intro a0 k
  obtain ⟨ih0, ih1⟩ := phalaropelaw04_UcsWhole.mono_l k
  unfold phalaropelaw04_UcsWhole.f
  repeat' first
      | (with_reducible exact ih0 _ _ _)
      | (with_reducible exact ih1 _ _ _ _)
      | (with_reducible exact phalaropelaw04_awake.mono _)
      | (with_reducible exact ucs_Fits.mono _ _)
      | (with_reducible exact ucs_Take.mono _ _)
      | (with_reducible exact LeO.refl _)
      | (with_reducible exact LeO.none _)
      | (with_reducible refine LeO.ite ?_ ?_)
      | (with_reducible refine LeO.bind ?_ (fun _ => ?_))
      | exact ih0 _ _ _
      | exact ih1 _ _ _ _
      | exact phalaropelaw04_awake.mono _
      | exact ucs_Fits.mono _ _
      | exact ucs_Take.mono _ _
      | exact LeO.none _
      | refine LeO.ite ?_ ?_
      | refine LeO.bind ?_ (fun _ => ?_)
set_option maxHeartbeats 8000000 in
set_option maxRecDepth 100000 in
theorem phalaropelaw04_UcsWhole.calls (k : Nat) (a0 : ByteArray) (r : Bool) (w : World) (h : phalaropelaw04_UcsWhole.f k a0 = some r) :
    Calls Try.prog 12 #[.string a0] w fun e w' => e = .returned (.bool r) ∧ Below w.heap.size w w' := by
  have HB := Aside0.mk (Below.refl w.heap.size w)
  have H : ((phalaropelaw04_awake.f k).bind fun t234 => (if (a0.size : Int) > 1000 then (phalaropelaw04_UcsWhole.j0 k a0 t234 true) else ((ucs_Fits.f k a0).bind fun t235 => (phalaropelaw04_UcsWhole.j0 k a0 t234 (!t235))))) = some r := h
  clear h
  replace H := Option.bind_eq_some_iff.mp H
  obtain ⟨t234, A20, H⟩ := H
  replace H : (if (a0.size : Int) > 1000 then (phalaropelaw04_UcsWhole.j0 k a0 t234 true) else ((ucs_Fits.f k a0).bind fun t235 => (phalaropelaw04_UcsWhole.j0 k a0 t234 (!t235)))) = some r := H
  have A2 := Aside0.mk A20
  clear A20
  have HC3 := Aside0.mk H
  clear H
  go_enter Try.func12, Try.ntmps12
  go_upto_region 2 with (first | ((with_reducible refine gate_callee (f := 35) rfl ?_); refine goesL_ (some 8) rfl rfl Try.func35 (by kernel_rfl) rfl #[] rfl (by (try simp only [List.map_toArray, List.map_cons, List.map_nil]); first | done | rfl | (simp only [List.length_drop, List.length_take]; rfl)) ?_; (with_reducible refine (phalaropelaw04_awake.calls k  t234 _ A2.out).mono ?_); rintro e w4 ⟨rfl, hb⟩; refine ⟨_, rfl, ?_⟩; have n0_ := Aside0.mk (below_step (by repeat (first | (with_reducible first | exact HB.out | apply below_alloc | apply pw_below_drewN | apply below_drew1) | exact HB.out)) hb); clear HB; have HB := n0_; clear n0_; (try clear hb); (try clear hb2); (try clear hk); (try clear hi)))
  (try simp only [Act.put, List.setIfInBounds_toArray, List.set_cons_zero, List.set_cons_succ])
  go_cut [16] (fun v16 wc => ∃ (kq : Nat) (x16_2 : Bool), v16 = .bool x16_2 ∧ Aside0 (phalaropelaw04_UcsWhole.j0 kq a0 t234 x16_2 = some r) ∧ Aside0 (kq ≤ k) ∧ Aside0 (Below w.heap.size w wc))
  case first =>
    have H := HC3.out
    clear HC3
    by_cases c5 : (a0.size : Int) > 1000
    · rw [if_pos c5] at H
      have c5b0 : decide (1000 < (a0.size : Int)) = true := decide_eq_true c5
      have c5b1 : decide (1000 < a0.size) = true := decide_eq_true (by omega)
      clear c5
      (first | rw [c5b0] | (simp only [i64_w, i32_w]; rw [c5b0]) | skip)
      have H' := Aside0.mk H
      clear H
      go_wp2
      go_meet
      case rel => exact ⟨_, (true), (by first | rfl | (simp; done) | (simp [*]; done)), H', ⟨by first | omega | exact Nat.le_refl _⟩, ⟨by repeat (first | (with_reducible first | exact HB.out | apply below_alloc | apply pw_below_drewN | apply below_drew1) | exact HB.out)⟩⟩
    · rw [if_neg c5] at H
      have c5b0 : decide (1000 < (a0.size : Int)) = false := decide_eq_false c5
      have c5b1 : decide (1000 < a0.size) = false := decide_eq_false (by omega)
      clear c5
      (first | rw [c5b0] | (simp only [i64_w, i32_w]; rw [c5b0]) | skip)
      replace H := Option.bind_eq_some_iff.mp H
      obtain ⟨t235, A60, H⟩ := H
      replace H : (phalaropelaw04_UcsWhole.j0 k a0 t234 (!t235)) = some r := H
      have A6 := Aside0.mk A60
      clear A60
      have H' := Aside0.mk H
      clear H
      go_wp2_with (first | (go_at_call 40; (with_reducible refine (ucs_Fits.calls k a0 t235 _ A6.out).mono ?_); rintro e w7 ⟨rfl, hb⟩; have n0_ := Aside0.mk (below_step (by repeat (first | (with_reducible first | exact HB.out | apply below_alloc | apply pw_below_drewN | apply below_drew1) | exact HB.out)) hb); clear HB; have HB := n0_; clear n0_; (try clear hb); (try clear hb2); (try clear hk); (try clear hi)))
      go_meet
      case rel => exact ⟨_, (!t235), (by first | rfl | (simp; done) | (simp [*]; done)), H', ⟨by first | omega | exact Nat.le_refl _⟩, ⟨by repeat (first | (with_reducible first | exact HB.out | apply below_alloc | apply pw_below_drewN | apply below_drew1) | exact HB.out)⟩⟩
  case rest =>
    clear HC3
    try clear c1
    try clear p2
    try clear c3
    try clear c5
    try clear c5b0
    try clear c5b1
    obtain ⟨kq, x16_2, rfl, HA, HJ2, HB⟩ := hcut
    cases kq with
    | zero => exact absurd HA.out (by simp [phalaropelaw04_UcsWhole.j0])
    | succ kj2 =>
      have H := HA.out
      clear HA
      simp only [phalaropelaw04_UcsWhole.j0] at H
      by_cases c8 : x16_2 = true
      · subst c8
        have H1 : (some t234) = some r := by rw [if_pos rfl] at H; exact H
        clear H
        have H := H1
        clear H1
        obtain rfl := Option.some.inj H
        go_wp2
        go_ret
        exact ⟨by first | rfl | (simp [errW_none, errW_some] <;> rfl) | (simp [*, errW_none, errW_some] <;> rfl), by repeat (first | (with_reducible first | exact HB.out | apply below_alloc | apply pw_below_drewN | apply below_drew1) | exact HB.out)⟩
      · replace c8 := Bool.eq_false_iff.mpr c8
        subst c8
        have H1 : (phalaropelaw04_UcsWhole.l0 kj2 a0 t234 false 0) = some r := by rw [if_neg (show ¬ (false = true) by decide)] at H; exact H
        clear H
        have H := H1
        clear H1
        have H' := Aside0.mk H
        clear H
        go_wp2
        go_loopg [4, 5] kj2 (fun kq v4 v5 w' => ∃ (x4_2 : Bool) (x5_2 : Int), v4 = .bool x4_2 ∧ v5 = .int .i64 x5_2 ∧ Aside0 (phalaropelaw04_UcsWhole.l0 kq a0 t234 x4_2 x5_2 = some r) ∧ Aside0 (kq ≤ kj2) ∧ Aside0 (Below w.heap.size w w'))
        case atStart => exact ⟨(false), (0), (by first | rfl | (simp; done) | (simp [*]; done)), (by first | rfl | (simp; done) | (simp [*]; done)), H', ⟨Nat.le_refl _⟩, ⟨by repeat (first | (with_reducible first | exact HB.out | apply below_alloc | apply pw_below_drewN | apply below_drew1) | exact HB.out)⟩⟩
        case round =>
          clear H'
          try clear c1
          try clear p2
          try clear c3
          try clear c5
          try clear c5b0
          try clear c5b1
          try clear c8
          try clear p2
          obtain ⟨x4_2, x5_2, rfl, rfl, HA, HK2, HB⟩ := hrel
          cases gk with
          | zero => exact absurd HA.out (by simp [phalaropelaw04_UcsWhole.l0])
          | succ k2 =>
            have H := HA.out
            clear HA
            simp only [phalaropelaw04_UcsWhole.l0] at H
            by_cases c9 : x5_2 < 256
            · rw [if_pos c9] at H
              have c9b0 : decide (x5_2 < 256) = true := decide_eq_true c9
              clear c9
              by_cases c10 : x4_2 = true
              · subst c10
                have H1 : (phalaropelaw04_UcsWhole.l0 k2 a0 t234 true (wrap64 (x5_2 + 1))) = some r := by rw [if_pos rfl] at H; exact H
                clear H
                have H := H1
                clear H1
                have H' := Aside0.mk H
                clear H
                go_wp2
                go_roundg k2
                case measure => have := HJ2.out; have := HK2.out; omega
                case rel => exact ⟨(true), (wrap64 (x5_2 + 1)), (by first | rfl | (simp; done) | (simp [*]; done)), (by first | rfl | (simp; done) | (simp [*]; done)), H', ⟨by have := HJ2.out; have := HK2.out; omega⟩, ⟨by repeat (first | (with_reducible first | exact HB.out | apply below_alloc | apply pw_below_drewN | apply below_drew1) | exact HB.out)⟩⟩
              · replace c10 := Bool.eq_false_iff.mpr c10
                subst c10
                have H1 : ((some (([(x5_2) % 256] : List Int) : List Int)).bind fun y236 => (if a0.size + (strOfNums y236).size ≤ 9223372036854775807 then ((ucs_Fits.f k2 (a0 ++ (strOfNums y236))).bind fun t239 => (phalaropelaw04_UcsWhole.l0 k2 a0 t234 t239 (wrap64 (x5_2 + 1)))) else (none))) = some r := by rw [if_neg (show ¬ (false = true) by decide)] at H; exact H
                clear H
                have H := H1
                clear H1
                obtain ⟨y236, hy236⟩ : ∃ y_ : List Int, y_ = (([(x5_2) % 256] : List Int)) := ⟨_, rfl⟩
                replace H : (if a0.size + (strOfNums y236).size ≤ 9223372036854775807 then ((ucs_Fits.f k2 (a0 ++ (strOfNums y236))).bind fun t239 => (phalaropelaw04_UcsWhole.l0 k2 a0 t234 t239 (wrap64 (x5_2 + 1)))) else (none)) = some r := by first | (rw [hy236]; with_reducible exact H) | (have H2_ := (Option.bind_some _ _).symm.trans H; rw [hy236]; with_reducible exact H2_) | (have H2_ := (Option.bind_some _ _).symm.trans H; with_reducible exact H2_) | with_reducible exact H | (rw [hy236]; exact H) | exact H
                have Ny236 := Aside0.mk hy236
                clear hy236
                by_cases c11 : a0.size + (strOfNums y236).size ≤ 9223372036854775807
                · rw [if_pos c11] at H
                  have c11b0 := eq_true c11
                  have c11b1 : decide (a0.size + (strOfNums y236).size ≤ 9223372036854775807) = true := decide_eq_true c11
                  try have c11b2 : (9223372036854775807 < a0.size + (strOfNums y236).size) = False := eq_false (Nat.not_lt.2 c11)
                  replace H := Option.bind_eq_some_iff.mp H
                  obtain ⟨t239, A120, H⟩ := H
                  replace H : (phalaropelaw04_UcsWhole.l0 k2 a0 t234 t239 (wrap64 (x5_2 + 1))) = some r := H
                  have A12 := Aside0.mk A120
                  clear A120
                  have H' := Aside0.mk H
                  clear H
                  go_wp2_with (first | ((with_reducible refine gate_dst (N := 27) rfl ?_); (try (refine gate_guard (by rfl) ?_; dsimp only)); refine Kd.R_lit (Kd.int .u8) _ 5 ?hg (N := 27) ?hd (xs := ([(x5_2) % 256] : List Int)) (inner := [.int .u8 ((x5_2) % 256)]) (ok := fun _ => True) (okp := fun _ => True) ?hr ?hp (fun _ hk => hk) trivial (Below.refl _ _) (Nat.le_refl _) (by simp) ?_; (case hd => rfl); (case hg => rfl); (case hr => first | (go_simp; done) | (go_simp; rfl)); (case hp => exact (Reps.one (show Kd.M (Kd.int .u8) _ _ _ ((x5_2) % 256) [.int .u8 ((x5_2) % 256)] from rfl) (Reps.none _ _))); intro v237 w13 ho14 hb hg_ hnew_; clear hg_ hnew_; (first | rw [← Ny236.out] at ho14 | (simp only [Int.reduceToNat] at ho14; rw [← Ny236.out] at ho14)); have n0_ := Aside0.mk (Kd.R_lower ho14 (below_size (by repeat (first | (with_reducible first | exact HB.out | apply below_alloc | apply pw_below_drewN | apply below_drew1) | exact HB.out)))); have n1_ := Aside0.mk (below_step (by repeat (first | (with_reducible first | exact HB.out | apply below_alloc | apply pw_below_drewN | apply below_drew1) | exact HB.out)) hb); clear HB; have HO238 := n0_; have HB := n1_; clear n0_ n1_; clear hb ho14; have hcv15 := own_string (P := Try.prog) Try.underlying45 Try.underlying5 Try.underlying9 (Kd.own_of_R HO238.out)) | (go_at_call 40; (with_reducible refine (ucs_Fits.calls k2 (a0 ++ (strOfNums y236)) t239 _ A12.out).mono ?_); rintro e w16 ⟨rfl, hb⟩; have n0_ := Aside0.mk (Kd.R_below (by (with_reducible repeat (first | apply Kd.R_alloc | apply Kd.R_drewN | apply Kd.R_drew)); exact HO238.out) hb); have n1_ := Aside0.mk (below_step (by repeat (first | (with_reducible first | exact HB.out | apply below_alloc | apply pw_below_drewN | apply below_drew1) | exact HB.out)) hb); clear HO238; clear HB; have HO238 := n0_; have HB := n1_; clear n0_ n1_; (try clear hb); (try clear hb2); (try clear hk); (try clear hi)))
                  go_roundg k2
                  case measure => have := HJ2.out; have := HK2.out; omega
                  case rel => exact ⟨(t239), (wrap64 (x5_2 + 1)), (by first | rfl | (simp; done) | (simp [*]; done)), (by first | rfl | (simp; done) | (simp [*]; done)), H', ⟨by have := HJ2.out; have := HK2.out; omega⟩, ⟨by repeat (first | (with_reducible first | exact HB.out | apply below_alloc | apply pw_below_drewN | apply below_drew1) | exact HB.out)⟩⟩
                · rw [if_neg c11] at H
                  exact absurd H (by simp)
            · rw [if_neg c9] at H
              have c9b0 : decide (x5_2 < 256) = false := decide_eq_false c9
              clear c9
              replace H := Option.bind_eq_some_iff.mp H
              obtain ⟨⟨t240, t241⟩, A170, H⟩ := H
              replace H : (if t234 = true then (if (x4_2 == (t241 == 0)) = true then (if t241 = 0 then (some true) else (some (t241 == (a0.size : Int)))) else (some false)) else (some false)) = some r := H
              have A17 := Aside0.mk A170
              clear A170
              by_cases c18 : t234 = true
              · subst c18
                have H1 : (if (x4_2 == (t241 == 0)) = true then (if t241 = 0 then (some true) else (some (t241 == (a0.size : Int)))) else (some false)) = some r := by rw [if_pos rfl] at H; exact H
                clear H
                have H := H1
                clear H1
                by_cases c19 : (x4_2 == (t241 == 0)) = true
                · rw [if_pos c19] at H
                  have c19b0 : (x4_2 == (t241 == 0)) = true := c19
                  (try (have c19b1 : decide (x4_2 = (t241 == 0)) = true := by simpa using c19))
                  (try (have c19b2 : (x4_2 == (t241 == 0)) = true := by simpa using c19))
                  clear c19
                  by_cases c20 : t241 = 0
                  · rw [if_pos c20] at H
                    have c20b0 : (t241 == 0) = true := beq_iff_eq.mpr c20
                    have c20b1 : (t241 != 0) = false := bne_eq_false_iff_eq.mpr c20
                    obtain rfl : x4_2 = true := by simpa [c20b0] using c19b0
                    clear c20
                    obtain rfl := Option.some.inj H
                    go_wp2_with (first | ((with_reducible refine gate_callee (f := 36) rfl ?_); refine goesL_ (some 34) rfl rfl Try.func36 (by kernel_rfl) rfl #[.string a0] rfl (by (try simp only [List.map_toArray, List.map_cons, List.map_nil]); first | done | rfl | (simp only [List.length_drop, List.length_take]; rfl)) ?_; (with_reducible refine (ucs_Take.calls k2 a0 t240 t241 _ A17.out).mono ?_); rintro e w21 ⟨rfl, hb⟩; refine ⟨_, rfl, ?_⟩; have n0_ := Aside0.mk (below_step (by repeat (first | (with_reducible first | exact HB.out | apply below_alloc | apply pw_below_drewN | apply below_drew1) | exact HB.out)) hb); clear HB; have HB := n0_; clear n0_; (try clear hb); (try clear hb2); (try clear hk); (try clear hi)))
                    go_ret
                    first | exact absurd (show some true = some false from A2.out.symm.trans A17.out) (by decide) | exact absurd (show some false = some true from A2.out.symm.trans A17.out) (by decide) | exact ⟨by first | rfl | (simp [errW_none, errW_some] <;> rfl) | (simp [*, errW_none, errW_some] <;> rfl), by repeat (first | (with_reducible first | exact HB.out | apply below_alloc | apply pw_below_drewN | apply below_drew1) | exact HB.out)⟩
                  · rw [if_neg c20] at H
                    have c20b0 : (t241 == 0) = false := beq_eq_false_iff_ne.mpr c20
                    have c20b1 : (t241 != 0) = true := bne_iff_ne.mpr c20
                    obtain rfl : x4_2 = false := by simpa [c20b0] using c19b0
                    obtain rfl := Option.some.inj H
                    go_wp2_with (first | ((with_reducible refine gate_callee (f := 36) rfl ?_); refine goesL_ (some 34) rfl rfl Try.func36 (by kernel_rfl) rfl #[.string a0] rfl (by (try simp only [List.map_toArray, List.map_cons, List.map_nil]); first | done | rfl | (simp only [List.length_drop, List.length_take]; rfl)) ?_; (with_reducible refine (ucs_Take.calls k2 a0 t240 t241 _ A17.out).mono ?_); rintro e w22 ⟨rfl, hb⟩; refine ⟨_, rfl, ?_⟩; have n0_ := Aside0.mk (below_step (by repeat (first | (with_reducible first | exact HB.out | apply below_alloc | apply pw_below_drewN | apply below_drew1) | exact HB.out)) hb); clear HB; have HB := n0_; clear n0_; (try clear hb); (try clear hb2); (try clear hk); (try clear hi)))
                    go_ret
                    first | exact absurd (show some true = some false from A2.out.symm.trans A17.out) (by decide) | exact absurd (show some false = some true from A2.out.symm.trans A17.out) (by decide) | exact ⟨by first | rfl | (simp [errW_none, errW_some] <;> rfl) | (simp [*, errW_none, errW_some] <;> rfl), by repeat (first | (with_reducible first | exact HB.out | apply below_alloc | apply pw_below_drewN | apply below_drew1) | exact HB.out)⟩
                · rw [if_neg c19] at H
                  have c19b0 : (x4_2 == (t241 == 0)) = false := by simpa using c19
                  (try (have c19b1 : decide (x4_2 = (t241 == 0)) = false := by simpa using c19))
                  (try (have c19b2 : (x4_2 == (t241 == 0)) = false := by simpa using c19))
                  (try (have c19b3 : ¬ (x4_2 = (t241 == 0)) := by simpa using c19))
                  clear c19
                  obtain rfl := Option.some.inj H
                  by_cases hq : t241 = 0
                  · have hq0 : (t241 == 0) = true := beq_iff_eq.mpr hq
                    obtain rfl : x4_2 = false := by simpa [hq0] using c19b0
                    go_wp2_with (first | ((with_reducible refine gate_callee (f := 36) rfl ?_); refine goesL_ (some 34) rfl rfl Try.func36 (by kernel_rfl) rfl #[.string a0] rfl (by (try simp only [List.map_toArray, List.map_cons, List.map_nil]); first | done | rfl | (simp only [List.length_drop, List.length_take]; rfl)) ?_; (with_reducible refine (ucs_Take.calls k2 a0 t240 t241 _ A17.out).mono ?_); rintro e w23 ⟨rfl, hb⟩; refine ⟨_, rfl, ?_⟩; have n0_ := Aside0.mk (below_step (by repeat (first | (with_reducible first | exact HB.out | apply below_alloc | apply pw_below_drewN | apply below_drew1) | exact HB.out)) hb); clear HB; have HB := n0_; clear n0_; (try clear hb); (try clear hb2); (try clear hk); (try clear hi)))
                    go_ret
                    first | exact absurd (show some true = some false from A2.out.symm.trans A17.out) (by decide) | exact absurd (show some false = some true from A2.out.symm.trans A17.out) (by decide) | exact ⟨by first | rfl | (simp [errW_none, errW_some] <;> rfl) | (simp [*, errW_none, errW_some] <;> rfl), by repeat (first | (with_reducible first | exact HB.out | apply below_alloc | apply pw_below_drewN | apply below_drew1) | exact HB.out)⟩
                  · have hq0 : (t241 == 0) = false := beq_eq_false_iff_ne.mpr hq
                    obtain rfl : x4_2 = true := by simpa [hq0] using c19b0
                    go_wp2_with (first | ((with_reducible refine gate_callee (f := 36) rfl ?_); refine goesL_ (some 34) rfl rfl Try.func36 (by kernel_rfl) rfl #[.string a0] rfl (by (try simp only [List.map_toArray, List.map_cons, List.map_nil]); first | done | rfl | (simp only [List.length_drop, List.length_take]; rfl)) ?_; (with_reducible refine (ucs_Take.calls k2 a0 t240 t241 _ A17.out).mono ?_); rintro e w23 ⟨rfl, hb⟩; refine ⟨_, rfl, ?_⟩; have n0_ := Aside0.mk (below_step (by repeat (first | (with_reducible first | exact HB.out | apply below_alloc | apply pw_below_drewN | apply below_drew1) | exact HB.out)) hb); clear HB; have HB := n0_; clear n0_; (try clear hb); (try clear hb2); (try clear hk); (try clear hi)))
                    go_ret
                    first | exact absurd (show some true = some false from A2.out.symm.trans A17.out) (by decide) | exact absurd (show some false = some true from A2.out.symm.trans A17.out) (by decide) | exact ⟨by first | rfl | (simp [errW_none, errW_some] <;> rfl) | (simp [*, errW_none, errW_some] <;> rfl), by repeat (first | (with_reducible first | exact HB.out | apply below_alloc | apply pw_below_drewN | apply below_drew1) | exact HB.out)⟩
              · replace c18 := Bool.eq_false_iff.mpr c18
                subst c18
                have H1 : (some false) = some r := by rw [if_neg (show ¬ (false = true) by decide)] at H; exact H
                clear H
                have H := H1
                clear H1
                obtain rfl := Option.some.inj H
                go_wp2_with (first | ((with_reducible refine gate_callee (f := 36) rfl ?_); refine goesL_ (some 34) rfl rfl Try.func36 (by kernel_rfl) rfl #[.string a0] rfl (by (try simp only [List.map_toArray, List.map_cons, List.map_nil]); first | done | rfl | (simp only [List.length_drop, List.length_take]; rfl)) ?_; (with_reducible refine (ucs_Take.calls k2 a0 t240 t241 _ A17.out).mono ?_); rintro e w24 ⟨rfl, hb⟩; refine ⟨_, rfl, ?_⟩; have n0_ := Aside0.mk (below_step (by repeat (first | (with_reducible first | exact HB.out | apply below_alloc | apply pw_below_drewN | apply below_drew1) | exact HB.out)) hb); clear HB; have HB := n0_; clear n0_; (try clear hb); (try clear hb2); (try clear hk); (try clear hi)))
                go_ret
                first | exact absurd (show some true = some false from A2.out.symm.trans A17.out) (by decide) | exact absurd (show some false = some true from A2.out.symm.trans A17.out) (by decide) | exact ⟨by first | rfl | (simp [errW_none, errW_some] <;> rfl) | (simp [*, errW_none, errW_some] <;> rfl), by repeat (first | (with_reducible first | exact HB.out | apply below_alloc | apply pw_below_drewN | apply below_drew1) | exact HB.out)⟩

/-- THE ONE PURE STATEMENT of phalaropelaw04_UcsWhole: yours. -/
def phalaropelaw04_UcsWhole.Pure : Prop := ∀ (a0 : ByteArray), a0.size ≤ 140737488351232 → ∃ k, phalaropelaw04_UcsWhole.f k a0 = some true
theorem phalaropelaw04_UcsWhole.walk (P : phalaropelaw04_UcsWhole.Pure) (a0 : ByteArray) (w : World) (w0 : a0.size ≤ 140737488351232) :
    Calls Try.prog 12 #[.string a0] w fun e w' => e = .returned (.bool true) ∧ Below w.heap.size w w' := by
  obtain ⟨k, h⟩ := P a0 w0
  refine (phalaropelaw04_UcsWhole.calls k a0 true w h).mono ?_
  rintro e w' ⟨rfl, hd⟩
  exact ⟨rfl, hd⟩

end Go.Proofs.Ytjjmfmlgemdjkaa.PUcs
