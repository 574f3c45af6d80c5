-- PRINTED by print.py (a twelfth state) out of the translation. Not trusted: Lean checks it.
import Derived.Test.YtmondgamackcgaaDoorPVnx0
import Derived.Test.YtmondgamackcgaaDoorPVnx1
namespace Go.Proofs.YtmondgamackcgaaDoor.PVn
open Go.RowKit Go.Proofs.YtmondgamackcgaaDoorW.PrintWords Go.Proofs.YtmondgamackcgaaDoorW.PrintLast Go.Proofs.YtmondgamackcgaaDoorW.PrintMore
attribute [local go_sem] max2_int min2_int max_two min_two max_three min_three max_four min_four   -- for this text's walks alone
set_option linter.unusedVariables false
set_option linter.unusedSimpArgs false

/-! ### phalaropelaw05_VnameParts: function 7 -/
mutual
def phalaropelaw05_VnameParts.l0 : Nat → ByteArray → Bool → List ByteArray → ByteArray → Int → Option (Bool)
  | 0, _, _, _, _, _ => none
  | k + 1, x0, x3, x4, x5, x6 => if x6 < (x4.length : Int) then (if 0 ≤ x6 then ((vname_May.f (rdOf ByteArray.empty x4 x6)).bind fun t196 => (if t196 = true then ((vname_Split.f (rdOf ByteArray.empty x4 x6)).bind fun t198 => (phalaropelaw05_VnameParts.j1 k x0 x3 x4 x5 x6 ((t198.length : Int) != 1))) else (phalaropelaw05_VnameParts.j1 k x0 x3 x4 x5 x6 true))) else (none)) else (if x3 = true then (some (x5.toList == x0.toList)) else (some false))
def phalaropelaw05_VnameParts.j1 : Nat → ByteArray → Bool → List ByteArray → ByteArray → Int → Bool → Option (Bool)
  | 0, _, _, _, _, _, _ => none
  | k + 1, x0, x3, x4, x5, x6, x43 => if x43 = true then (some false) else (if x6 > 0 then (if x5.size + 1 ≤ 9223372036854775807 then (if 0 ≤ x6 then (if x6 < (x4.length : Int) then (if (x5 ++ (⟨#[46]⟩ : ByteArray)).size + (rdOf ByteArray.empty x4 x6).size ≤ 9223372036854775807 then (phalaropelaw05_VnameParts.l0 k x0 x3 x4 ((x5 ++ (⟨#[46]⟩ : ByteArray)) ++ (rdOf ByteArray.empty x4 x6)) (wrap64 (x6 + 1))) else (none)) else (none)) else (none)) else (none)) else (if 0 ≤ x6 then (if x6 < (x4.length : Int) then (if x5.size + (rdOf ByteArray.empty x4 x6).size ≤ 9223372036854775807 then (phalaropelaw05_VnameParts.l0 k x0 x3 x4 (x5 ++ (rdOf ByteArray.empty x4 x6)) (wrap64 (x6 + 1))) else (none)) else (none)) else (none)))
end
def phalaropelaw05_VnameParts.f (k : Nat) (a0 : ByteArray) : Option (Bool) := (phalaropelaw05_awake.f).bind fun t190 => (if (a0.size : Int) > 200 then (some t190) else ((vname_Split.f a0).bind fun t191 => ((vname_May.f a0).bind fun t194 => (if t194 = true then (phalaropelaw05_VnameParts.l0 k a0 t190 t191 (⟨#[]⟩ : ByteArray) 0) else (if t190 = true then (some ((t191.length : Int) == 0)) else (some false))))))
theorem phalaropelaw05_VnameParts.mono_l : ∀ k, (∀ y0 y1 y2 y3 y4, LeO (phalaropelaw05_VnameParts.l0 k y0 y1 y2 y3 y4) (phalaropelaw05_VnameParts.l0 (k + 1) y0 y1 y2 y3 y4)) ∧ (∀ y0 y1 y2 y3 y4 y5, LeO (phalaropelaw05_VnameParts.j1 k y0 y1 y2 y3 y4 y5) (phalaropelaw05_VnameParts.j1 (k + 1) y0 y1 y2 y3 y4 y5))
  | 0 => ⟨fun _ _ _ _ _ r h => by simp [phalaropelaw05_VnameParts.l0] at h, fun _ _ _ _ _ _ r h => by simp [phalaropelaw05_VnameParts.j1] at h⟩
  | k + 1 => by
    obtain ⟨ih0, ih1⟩ := phalaropelaw05_VnameParts.mono_l k
    refine ⟨?_, ?_⟩
    · intro y0 y1 y2 y3 y4
      unfold phalaropelaw05_VnameParts.l0
      repeat' first
      | (with_reducible exact ih0 _ _ _ _ _)
      | (with_reducible exact ih1 _ _ _ _ _ _)
      | (with_reducible exact LeO.refl _)
      | (with_reducible exact LeO.none _)
      | (with_reducible refine LeO.ite ?_ ?_)
      | (with_reducible refine LeO.bind ?_ (fun _ => ?_))
      | exact ih0 _ _ _ _ _
      | exact ih1 _ _ _ _ _ _
      | exact LeO.none _
      | refine LeO.ite ?_ ?_
      | refine LeO.bind ?_ (fun _ => ?_)
    · intro y0 y1 y2 y3 y4 y5
      unfold phalaropelaw05_VnameParts.j1
      repeat' first
      | (with_reducible exact ih0 _ _ _ _ _)
      | (with_reducible exact ih1 _ _ _ _ _ _)
      | (with_reducible exact LeO.refl _)
      | (with_reducible exact LeO.none _)
      | (with_reducible refine LeO.ite ?_ ?_)
      | (with_reducible refine LeO.bind ?_ (fun _ => ?_))
      | exact ih0 _ _ _ _ _
      | exact ih1 _ _ _ _ _ _
      | exact LeO.none _
      | refine LeO.ite ?_ ?_
      | refine LeO.bind ?_ (fun _ => ?_)
theorem phalaropelaw05_VnameParts.mono : ∀ a0 k, LeO (phalaropelaw05_VnameParts.f k a0) (phalaropelaw05_VnameParts.f (k + 1) a0) := by
  intro a0 k
  obtain ⟨ih0, ih1⟩ := phalaropelaw05_VnameParts.mono_l k
  unfold phalaropelaw05_VnameParts.f
  repeat' first
      | (with_reducible exact ih0 _ _ _ _ _)
      | (with_reducible exact ih1 _ _ _ _ _ _)
      | (with_reducible exact LeO.refl _)
      | (with_reducible exact LeO.none _)
      | (with_reducible refine LeO.ite ?_ ?_)
      | (with_reducible refine LeO.bind ?_ (fun _ => ?_))
      | exact ih0 _ _ _ _ _
      | exact ih1 _ _ _ _ _ _
      | exact LeO.none _
      | refine LeO.ite ?_ ?_
      | refine LeO.bind ?_ (fun _ => ?_)
set_option maxHeartbeats 8000000 in
set_option maxRecDepth 100000 in
theorem phalaropelaw05_VnameParts.calls (k : Nat) (a0 : ByteArray) (r : Bool) (w : World) (h : phalaropelaw05_VnameParts.f k a0 = some r) :
    Calls Tryd.prog 7 #[.string a0] w fun e w' => e = .returned (.bool r) ∧ Below w.heap.size w w' := by
  have HB := Aside0.mk (Below.refl w.heap.size w)
  have H : ((phalaropelaw05_awake.f).bind fun t190 => (if (a0.size : Int) > 200 then (some t190) else ((vname_Split.f a0).bind fun t191 => ((vname_May.f a0).bind fun t194 => (if t194 = true then (phalaropelaw05_VnameParts.l0 k a0 t190 t191 (⟨#[]⟩ : ByteArray) 0) else (if t190 = true then (some ((t191.length : Int) == 0)) else (some false))))))) = some r := h
  clear h
  replace H := Option.bind_eq_some_iff.mp H
  obtain ⟨t190, A20, H⟩ := H
  replace H : (if (a0.size : Int) > 200 then (some t190) else ((vname_Split.f a0).bind fun t191 => ((vname_May.f a0).bind fun t194 => (if t194 = true then (phalaropelaw05_VnameParts.l0 k a0 t190 t191 (⟨#[]⟩ : ByteArray) 0) else (if t190 = true then (some ((t191.length : Int) == 0)) else (some false)))))) = some r := H
  have A2 := Aside0.mk A20
  clear A20
  by_cases c3 : (a0.size : Int) > 200
  · rw [if_pos c3] at H
    have c3b0 : decide (200 < (a0.size : Int)) = true := decide_eq_true c3
    have c3b1 : decide (200 < a0.size) = true := decide_eq_true (by omega)
    clear c3
    obtain rfl := Option.some.inj H
    go_enter Tryd.func7, Tryd.ntmps7
    go_wp2_with (first | ((with_reducible refine gate_callee (f := 9) rfl ?_); refine goesL_ (some 7) rfl rfl Tryd.func9 (by kernel_rfl) rfl #[] rfl (by (try simp only [List.map_toArray, List.map_cons, List.map_nil]); first | done | rfl | (simp only [List.length_drop, List.length_take]; rfl)) ?_; (with_reducible refine (phalaropelaw05_awake.calls  t190 _ A2.out).mono ?_); rintro e w4 ⟨rfl, hb⟩; refine ⟨_, rfl, ?_⟩; have n0_ := Aside0.mk (below_step (by repeat (first | (with_reducible first | exact HB.out | apply below_alloc | apply pw_below_drewN | apply below_drew1) | exact HB.out)) hb); clear HB; have HB := n0_; clear n0_; (try clear hb); (try clear hb2); (try clear hk); (try clear hi)))
    go_ret
    exact ⟨by first | rfl | (simp [errW_none, errW_some] <;> rfl) | (simp [*, errW_none, errW_some] <;> rfl), by repeat (first | (with_reducible first | exact HB.out | apply below_alloc | apply pw_below_drewN | apply below_drew1) | exact HB.out)⟩
  · rw [if_neg c3] at H
    have c3b0 : decide (200 < (a0.size : Int)) = false := decide_eq_false c3
    have c3b1 : decide (200 < a0.size) = false := decide_eq_false (by omega)
    clear c3
    replace H := Option.bind_eq_some_iff.mp H
    obtain ⟨t191, A50, H⟩ := H
    replace H : ((vname_May.f a0).bind fun t194 => (if t194 = true then (phalaropelaw05_VnameParts.l0 k a0 t190 t191 (⟨#[]⟩ : ByteArray) 0) else (if t190 = true then (some ((t191.length : Int) == 0)) else (some false)))) = some r := H
    have A5 := Aside0.mk A50
    clear A50
    replace H := Option.bind_eq_some_iff.mp H
    obtain ⟨t194, A60, H⟩ := H
    replace H : (if t194 = true then (phalaropelaw05_VnameParts.l0 k a0 t190 t191 (⟨#[]⟩ : ByteArray) 0) else (if t190 = true then (some ((t191.length : Int) == 0)) else (some false))) = some r := H
    have A6 := Aside0.mk A60
    clear A60
    by_cases c7 : t194 = true
    · subst c7
      have H1 : (phalaropelaw05_VnameParts.l0 k a0 t190 t191 (⟨#[]⟩ : ByteArray) 0) = some r := by rw [if_pos rfl] at H; exact H
      clear H
      have H := H1
      clear H1
      have H' := Aside0.mk H
      clear H
      go_enter Tryd.func7, Tryd.ntmps7
      go_wp2_with (first | ((with_reducible refine gate_callee (f := 9) rfl ?_); refine goesL_ (some 7) rfl rfl Tryd.func9 (by kernel_rfl) rfl #[] rfl (by (try simp only [List.map_toArray, List.map_cons, List.map_nil]); first | done | rfl | (simp only [List.length_drop, List.length_take]; rfl)) ?_; (with_reducible refine (phalaropelaw05_awake.calls  t190 _ A2.out).mono ?_); rintro e w8 ⟨rfl, hb⟩; refine ⟨_, rfl, ?_⟩; have n0_ := Aside0.mk (below_step (by repeat (first | (with_reducible first | exact HB.out | apply below_alloc | apply pw_below_drewN | apply below_drew1) | exact HB.out)) hb); clear HB; have HB := n0_; clear n0_; (try clear hb); (try clear hb2); (try clear hk); (try clear hi)) | ((with_reducible refine gate_callee (f := 14) rfl ?_); refine goesL_ (some 13) rfl rfl Tryd.func14 (by kernel_rfl) rfl #[.string a0] rfl (by (try simp only [List.map_toArray, List.map_cons, List.map_nil]); first | done | rfl | (simp only [List.length_drop, List.length_take]; rfl)) ?_; (with_reducible refine (vname_Split.calls a0 t191 _ A5.out).mono ?_); rintro e w9 ⟨v192, rfl, ho0, hb⟩; refine ⟨_, rfl, ?_⟩; have n0_ := Aside0.mk (Kd.R_lower ho0 (below_size (by repeat (first | (with_reducible first | exact HB.out | apply below_alloc | apply pw_below_drewN | apply below_drew1) | exact HB.out)))); have n1_ := Aside0.mk (below_step (by repeat (first | (with_reducible first | exact HB.out | apply below_alloc | apply pw_below_drewN | apply below_drew1) | exact HB.out)) hb); clear HB; have HO193 := n0_; have HB := n1_; clear n0_ n1_; (try clear hb); (try clear hb2); (try clear hk); (try clear hi); (try clear ho0)) | ((with_reducible refine gate_callee (f := 10) rfl ?_); refine goesL_ (some 15) rfl rfl Tryd.func10 (by kernel_rfl) rfl #[.string a0] rfl (by (try simp only [List.map_toArray, List.map_cons, List.map_nil]); first | done | rfl | (simp only [List.length_drop, List.length_take]; rfl)) ?_; (with_reducible refine (vname_May.calls a0 true _ A6.out).mono ?_); rintro e w10 ⟨rfl, hb⟩; refine ⟨_, rfl, ?_⟩; have n0_ := Aside0.mk (Kd.R_below (by (with_reducible repeat (first | apply Kd.R_alloc | apply Kd.R_drewN | apply Kd.R_drew)); exact HO193.out) hb); have n1_ := Aside0.mk (below_step (by repeat (first | (with_reducible first | exact HB.out | apply below_alloc | apply pw_below_drewN | apply below_drew1) | exact HB.out)) hb); clear HO193; clear HB; have HO193 := n0_; have HB := n1_; clear n0_ n1_; (try clear hb); (try clear hb2); (try clear hk); (try clear hi)))
      go_loopg [5, 6] k (fun kq v5 v6 w' => ∃ (x5_1 : ByteArray) (x6_1 : Int), v5 = .string x5_1 ∧ v6 = .int .i64 x6_1 ∧ Aside0 (phalaropelaw05_VnameParts.l0 kq a0 t190 t191 x5_1 x6_1 = some r) ∧ Aside0 (kq ≤ k) ∧ Aside0 (Kd.R Kd.string 9 w' w.heap.size (fun _ => True) v192 t191) ∧ Aside0 (Below w.heap.size w w'))
      case atStart => exact ⟨((⟨#[]⟩ : ByteArray)), (0), (by first | rfl | (simp; done) | (simp [*]; done)), (by first | rfl | (simp; done) | (simp [*]; done)), H', ⟨Nat.le_refl _⟩, ⟨by (with_reducible repeat (first | apply Kd.R_alloc | apply Kd.R_drewN | apply Kd.R_drew)); exact HO193.out⟩, ⟨by repeat (first | (with_reducible first | exact HB.out | apply below_alloc | apply pw_below_drewN | apply below_drew1) | exact HB.out)⟩⟩
      case round =>
        clear H'
        try clear c1
        try clear p2
        try clear c3
        try clear c3b0
        try clear c3b1
        try clear c7
        try clear c9
        try clear c10
        obtain ⟨x5_1, x6_1, rfl, rfl, HA, HK1, HO_4, HB⟩ := hrel
        cases gk with
        | zero => exact absurd HA.out (by simp [phalaropelaw05_VnameParts.l0])
        | succ k1 =>
          have H := HA.out
          clear HA
          simp only [phalaropelaw05_VnameParts.l0] at H
          by_cases c11 : x6_1 < (t191.length : Int)
          · rw [if_pos c11] at H
            have c11b0 : decide (x6_1 < (t191.length : Int)) = true := decide_eq_true c11
            clear c11
            have HC12 := Aside0.mk H
            clear H
            obtain ⟨Ao13, co13, eo13⟩ := Kd.R_slice HO_4.out
            subst eo13
            go_upto_region 11 with (fail)
            go_cut [43] (fun v43 wc => ∃ (kq : Nat) (x43_11 : Bool), v43 = .bool x43_11 ∧ Aside0 (phalaropelaw05_VnameParts.j1 kq a0 t190 t191 x5_1 x6_1 x43_11 = some r) ∧ Aside0 (kq ≤ k1) ∧ Aside0 (Kd.R Kd.string 9 wc w.heap.size (fun _ => True) (.slice Ao13 t191.length co13) t191) ∧ Aside0 (Below w.heap.size w wc))
            case first =>
              have H := HC12.out
              clear HC12
              by_cases c14 : 0 ≤ x6_1
              · rw [if_pos c14] at H
                have c14b0 : decide (0 ≤ x6_1) = true := decide_eq_true c14
                clear c14
                (first | rw [c14b0] | (simp only [i64_w, i32_w]; rw [c14b0]) | skip)
                replace H := Option.bind_eq_some_iff.mp H
                obtain ⟨t196, A150, H⟩ := H
                replace H : (if t196 = true then ((vname_Split.f (rdOf ByteArray.empty t191 x6_1)).bind fun t198 => (phalaropelaw05_VnameParts.j1 k1 a0 t190 t191 x5_1 x6_1 ((t198.length : Int) != 1))) else (phalaropelaw05_VnameParts.j1 k1 a0 t190 t191 x5_1 x6_1 true)) = some r := H
                have A15 := Aside0.mk A150
                clear A150
                by_cases c16 : t196 = true
                · subst c16
                  have H1 : ((vname_Split.f (rdOf ByteArray.empty t191 x6_1)).bind fun t198 => (phalaropelaw05_VnameParts.j1 k1 a0 t190 t191 x5_1 x6_1 ((t198.length : Int) != 1))) = some r := by rw [if_pos rfl] at H; exact H
                  clear H
                  have H := H1
                  clear H1
                  replace H := Option.bind_eq_some_iff.mp H
                  obtain ⟨t198, A170, H⟩ := H
                  replace H : (phalaropelaw05_VnameParts.j1 k1 a0 t190 t191 x5_1 x6_1 ((t198.length : Int) != 1)) = some r := H
                  have A17 := Aside0.mk A170
                  clear A170
                  have H' := Aside0.mk H
                  clear H
                  have p195 : 0 ≤ (x6_1 : Int) := of_decide_eq_true (by first | (with_reducible assumption) | assumption)
                  have q195 : x6_1 < (t191.length : Int) := of_decide_eq_true (by first | (with_reducible assumption) | assumption)
                  obtain ⟨ad195, e195, hx195_0⟩ := Kd.at_string (Kd.R_reads' HO_4.out).2.2 x6_1 p195 q195
                  cases e195
                  replace p195 := eq_true p195
                  replace q195 := eq_true q195
                  go_wp2_with (first | ((with_reducible refine gate_callee (f := 10) rfl ?_); refine goesL_ (some 33) rfl rfl Tryd.func10 (by kernel_rfl) rfl #[.string (rdOf ByteArray.empty t191 x6_1)] rfl (by (try simp only [List.map_toArray, List.map_cons, List.map_nil]); first | done | rfl | (simp only [List.length_drop, List.length_take]; rfl)) ?_; (with_reducible refine (vname_May.calls (rdOf ByteArray.empty t191 x6_1) true _ A15.out).mono ?_); rintro e w18 ⟨rfl, hb⟩; refine ⟨_, rfl, ?_⟩; have n0_ := Aside0.mk (Kd.R_below (by (with_reducible repeat (first | apply Kd.R_alloc | apply Kd.R_drewN | apply Kd.R_drew)); exact HO_4.out) hb); have n1_ := Aside0.mk (below_step (by repeat (first | (with_reducible first | exact HB.out | apply below_alloc | apply pw_below_drewN | apply below_drew1) | exact HB.out)) hb); clear HO_4; clear HB; have HO_4 := n0_; have HB := n1_; clear n0_ n1_; (try clear hb); (try clear hb2); (try clear hk); (try clear hi); have p197 : 0 ≤ (x6_1 : Int) := of_decide_eq_true (by first | (with_reducible assumption) | assumption); have q197 : x6_1 < (t191.length : Int) := of_decide_eq_true (by first | (with_reducible assumption) | assumption); obtain ⟨ad197, e197, hx197_0⟩ := Kd.at_string (Kd.R_reads' HO_4.out).2.2 x6_1 p197 q197; obtain rfl : ad195 = ad197 := (by injection e197); replace p197 := eq_true p197; replace q197 := eq_true q197) | (go_at_call 14; (with_reducible refine (vname_Split.calls (rdOf ByteArray.empty t191 x6_1) t198 _ A17.out).mono ?_); rintro e w19 ⟨v199, rfl, ho0, hb⟩; have n0_ := Aside0.mk (Kd.R_elder' (by (with_reducible repeat (first | apply Kd.R_alloc | apply Kd.R_drewN | apply Kd.R_drew)); exact HO_4.out) (Kd.R_base ho0) hb); have n1_ := Aside0.mk (Kd.R_lower (Kd.R_new' ho0 (Kd.R_lt (by (with_reducible repeat (first | apply Kd.R_alloc | apply Kd.R_drewN | apply Kd.R_drew)); exact HO_4.out))) (below_size (by repeat (first | (with_reducible first | exact HB.out | apply below_alloc | apply pw_below_drewN | apply below_drew1) | exact HB.out)))); have n2_ := Aside0.mk (below_step (by repeat (first | (with_reducible first | exact HB.out | apply below_alloc | apply pw_below_drewN | apply below_drew1) | exact HB.out)) hb); clear HO_4; clear HB; have HO_4 := n0_; have HO200 := n1_; have HB := n2_; clear n0_ n1_ n2_; (try clear hb); (try clear hb2); (try clear hk); (try clear hi); (try clear ho0); obtain ⟨Ao20, co20, eo20⟩ := Kd.R_slice HO200.out; subst eo20))
                  go_meet
                  case rel => exact ⟨_, (((t198.length : Int) != 1)), (by first | rfl | (simp; done) | (simp [*]; done)), H', ⟨by have := HK1.out; first | omega | exact Nat.le_refl _⟩, ⟨by (with_reducible repeat (first | apply Kd.R_alloc | apply Kd.R_drewN | apply Kd.R_drew)); exact Kd.R_mono HO_4.out (fun _ hk => trivial)⟩, ⟨by repeat (first | (with_reducible first | exact HB.out | apply below_alloc | apply pw_below_drewN | apply below_drew1) | exact HB.out)⟩⟩
                · replace c16 := Bool.eq_false_iff.mpr c16
                  subst c16
                  have H1 : (phalaropelaw05_VnameParts.j1 k1 a0 t190 t191 x5_1 x6_1 true) = some r := by rw [if_neg (show ¬ (false = true) by decide)] at H; exact H
                  clear H
                  have H := H1
                  clear H1
                  have H' := Aside0.mk H
                  clear H
                  have p195 : 0 ≤ (x6_1 : Int) := of_decide_eq_true (by first | (with_reducible assumption) | assumption)
                  have q195 : x6_1 < (t191.length : Int) := of_decide_eq_true (by first | (with_reducible assumption) | assumption)
                  obtain ⟨ad195, e195, hx195_0⟩ := Kd.at_string (Kd.R_reads' HO_4.out).2.2 x6_1 p195 q195
                  cases e195
                  replace p195 := eq_true p195
                  replace q195 := eq_true q195
                  go_wp2_with (first | ((with_reducible refine gate_callee (f := 10) rfl ?_); refine goesL_ (some 33) rfl rfl Tryd.func10 (by kernel_rfl) rfl #[.string (rdOf ByteArray.empty t191 x6_1)] rfl (by (try simp only [List.map_toArray, List.map_cons, List.map_nil]); first | done | rfl | (simp only [List.length_drop, List.length_take]; rfl)) ?_; (with_reducible refine (vname_May.calls (rdOf ByteArray.empty t191 x6_1) false _ A15.out).mono ?_); rintro e w21 ⟨rfl, hb⟩; refine ⟨_, rfl, ?_⟩; have n0_ := Aside0.mk (Kd.R_below (by (with_reducible repeat (first | apply Kd.R_alloc | apply Kd.R_drewN | apply Kd.R_drew)); exact HO_4.out) hb); have n1_ := Aside0.mk (below_step (by repeat (first | (with_reducible first | exact HB.out | apply below_alloc | apply pw_below_drewN | apply below_drew1) | exact HB.out)) hb); clear HO_4; clear HB; have HO_4 := n0_; have HB := n1_; clear n0_ n1_; (try clear hb); (try clear hb2); (try clear hk); (try clear hi)))
                  go_meet
                  case rel => exact ⟨_, (true), (by first | rfl | (simp; done) | (simp [*]; done)), H', ⟨by have := HK1.out; first | omega | exact Nat.le_refl _⟩, ⟨by (with_reducible repeat (first | apply Kd.R_alloc | apply Kd.R_drewN | apply Kd.R_drew)); exact HO_4.out⟩, ⟨by repeat (first | (with_reducible first | exact HB.out | apply below_alloc | apply pw_below_drewN | apply below_drew1) | exact HB.out)⟩⟩
              · rw [if_neg c14] at H
                exact absurd H (by simp)
            case rest =>
              clear HC12
              try clear c1
              try clear p1
              try clear q1
              try clear hx1
              try clear p2
              try clear c3
              try clear c3b0
              try clear c3b1
              try clear c7
              try clear c9
              try clear c10
              try clear c11
              try clear c11b0
              try clear c14
              try clear c14b0
              try clear c16
              try clear p19
              try clear q19
              try clear hx19
              try clear hx195_0
              try clear hx197_0
              try clear p195
              try clear p197
              try clear p2
              try clear q195
              try clear q197
              obtain ⟨kq, x43_11, rfl, HA, HJ11, HO_4, HB⟩ := hcut
              cases kq with
              | zero => exact absurd HA.out (by simp [phalaropelaw05_VnameParts.j1])
              | succ kj11 =>
                have H := HA.out
                clear HA
                simp only [phalaropelaw05_VnameParts.j1] at H
                by_cases c22 : x43_11 = true
                · subst c22
                  have H1 : (some false) = some r := by rw [if_pos rfl] at H; exact H
                  clear H
                  have H := H1
                  clear H1
                  obtain rfl := Option.some.inj H
                  go_wp2
                  go_ret
                  exact ⟨by first | rfl | (simp [errW_none, errW_some] <;> rfl) | (simp [*, errW_none, errW_some] <;> rfl), by repeat (first | (with_reducible first | exact HB.out | apply below_alloc | apply pw_below_drewN | apply below_drew1) | exact HB.out)⟩
                · replace c22 := Bool.eq_false_iff.mpr c22
                  subst c22
                  have H1 : (if x6_1 > 0 then (if x5_1.size + 1 ≤ 9223372036854775807 then (if 0 ≤ x6_1 then (if x6_1 < (t191.length : Int) then (if (x5_1 ++ (⟨#[46]⟩ : ByteArray)).size + (rdOf ByteArray.empty t191 x6_1).size ≤ 9223372036854775807 then (phalaropelaw05_VnameParts.l0 kj11 a0 t190 t191 ((x5_1 ++ (⟨#[46]⟩ : ByteArray)) ++ (rdOf ByteArray.empty t191 x6_1)) (wrap64 (x6_1 + 1))) else (none)) else (none)) else (none)) else (none)) else (if 0 ≤ x6_1 then (if x6_1 < (t191.length : Int) then (if x5_1.size + (rdOf ByteArray.empty t191 x6_1).size ≤ 9223372036854775807 then (phalaropelaw05_VnameParts.l0 kj11 a0 t190 t191 (x5_1 ++ (rdOf ByteArray.empty t191 x6_1)) (wrap64 (x6_1 + 1))) else (none)) else (none)) else (none))) = some r := by rw [if_neg (show ¬ (false = true) by decide)] at H; exact H
                  clear H
                  have H := H1
                  clear H1
                  by_cases c23 : x6_1 > 0
                  · rw [if_pos c23] at H
                    have c23b0 : decide (0 < x6_1) = true := decide_eq_true c23
                    clear c23
                    by_cases c24 : x5_1.size + 1 ≤ 9223372036854775807
                    · rw [if_pos c24] at H
                      have c24b0 := eq_true c24
                      have c24b1 : decide (x5_1.size + 1 ≤ 9223372036854775807) = true := decide_eq_true c24
                      try have c24b2 : (9223372036854775807 < x5_1.size + 1) = False := eq_false (Nat.not_lt.2 c24)
                      by_cases c25 : 0 ≤ x6_1
                      · rw [if_pos c25] at H
                        have c25b0 : decide (0 ≤ x6_1) = true := decide_eq_true c25
                        clear c25
                        by_cases c26 : x6_1 < (t191.length : Int)
                        · rw [if_pos c26] at H
                          have c26b0 : decide (x6_1 < (t191.length : Int)) = true := decide_eq_true c26
                          clear c26
                          by_cases c27 : (x5_1 ++ (⟨#[46]⟩ : ByteArray)).size + (rdOf ByteArray.empty t191 x6_1).size ≤ 9223372036854775807
                          · rw [if_pos c27] at H
                            have c27b0 := eq_true c27
                            have c27b1 : decide ((x5_1 ++ (⟨#[46]⟩ : ByteArray)).size + (rdOf ByteArray.empty t191 x6_1).size ≤ 9223372036854775807) = true := decide_eq_true c27
                            try have c27b2 : (9223372036854775807 < (x5_1 ++ (⟨#[46]⟩ : ByteArray)).size + (rdOf ByteArray.empty t191 x6_1).size) = False := eq_false (Nat.not_lt.2 c27)
                            have H' := Aside0.mk H
                            clear H
                            have p201 : 0 ≤ (x6_1 : Int) := of_decide_eq_true (by first | (with_reducible assumption) | assumption)
                            have q201 : x6_1 < (t191.length : Int) := of_decide_eq_true (by first | (with_reducible assumption) | assumption)
                            obtain ⟨ad201, e201, hx201_0⟩ := Kd.at_string (Kd.R_reads' HO_4.out).2.2 x6_1 p201 q201
                            cases e201
                            replace p201 := eq_true p201
                            replace q201 := eq_true q201
                            go_wp2
                            go_roundg kj11
                            case measure => have := HK1.out; have := HJ11.out; omega
                            case rel => exact ⟨((x5_1 ++ (⟨#[46]⟩ : ByteArray)) ++ (rdOf ByteArray.empty t191 x6_1)), (wrap64 (x6_1 + 1)), (by first | rfl | (simp; done) | (simp [*]; done)), (by first | rfl | (simp; done) | (simp [*]; done)), H', ⟨by have := HK1.out; have := HJ11.out; omega⟩, ⟨by (with_reducible repeat (first | apply Kd.R_alloc | apply Kd.R_drewN | apply Kd.R_drew)); exact HO_4.out⟩, ⟨by repeat (first | (with_reducible first | exact HB.out | apply below_alloc | apply pw_below_drewN | apply below_drew1) | exact HB.out)⟩⟩
                          · rw [if_neg c27] at H
                            exact absurd H (by simp)
                        · rw [if_neg c26] at H
                          exact absurd H (by simp)
                      · rw [if_neg c25] at H
                        exact absurd H (by simp)
                    · rw [if_neg c24] at H
                      exact absurd H (by simp)
                  · rw [if_neg c23] at H
                    have c23b0 : decide (0 < x6_1) = false := decide_eq_false c23
                    clear c23
                    by_cases c28 : 0 ≤ x6_1
                    · rw [if_pos c28] at H
                      have c28b0 : decide (0 ≤ x6_1) = true := decide_eq_true c28
                      clear c28
                      by_cases c29 : x6_1 < (t191.length : Int)
                      · rw [if_pos c29] at H
                        have c29b0 : decide (x6_1 < (t191.length : Int)) = true := decide_eq_true c29
                        clear c29
                        by_cases c30 : x5_1.size + (rdOf ByteArray.empty t191 x6_1).size ≤ 9223372036854775807
                        · rw [if_pos c30] at H
                          have c30b0 := eq_true c30
                          have c30b1 : decide (x5_1.size + (rdOf ByteArray.empty t191 x6_1).size ≤ 9223372036854775807) = true := decide_eq_true c30
                          try have c30b2 : (9223372036854775807 < x5_1.size + (rdOf ByteArray.empty t191 x6_1).size) = False := eq_false (Nat.not_lt.2 c30)
                          have H' := Aside0.mk H
                          clear H
                          have p202 : 0 ≤ (x6_1 : Int) := of_decide_eq_true (by first | (with_reducible assumption) | assumption)
                          have q202 : x6_1 < (t191.length : Int) := of_decide_eq_true (by first | (with_reducible assumption) | assumption)
                          obtain ⟨ad202, e202, hx202_0⟩ := Kd.at_string (Kd.R_reads' HO_4.out).2.2 x6_1 p202 q202
                          cases e202
                          replace p202 := eq_true p202
                          replace q202 := eq_true q202
                          go_wp2
                          go_roundg kj11
                          case measure => have := HK1.out; have := HJ11.out; omega
                          case rel => exact ⟨(x5_1 ++ (rdOf ByteArray.empty t191 x6_1)), (wrap64 (x6_1 + 1)), (by first | rfl | (simp; done) | (simp [*]; done)), (by first | rfl | (simp; done) | (simp [*]; done)), H', ⟨by have := HK1.out; have := HJ11.out; omega⟩, ⟨by (with_reducible repeat (first | apply Kd.R_alloc | apply Kd.R_drewN | apply Kd.R_drew)); exact HO_4.out⟩, ⟨by repeat (first | (with_reducible first | exact HB.out | apply below_alloc | apply pw_below_drewN | apply below_drew1) | exact HB.out)⟩⟩
                        · rw [if_neg c30] at H
                          exact absurd H (by simp)
                      · rw [if_neg c29] at H
                        exact absurd H (by simp)
                    · rw [if_neg c28] at H
                      exact absurd H (by simp)
          · rw [if_neg c11] at H
            have c11b0 : decide (x6_1 < (t191.length : Int)) = false := decide_eq_false c11
            clear c11
            by_cases c31 : t190 = true
            · subst c31
              have H1 : (some (x5_1.toList == a0.toList)) = some r := by rw [if_pos rfl] at H; exact H
              clear H
              have H := H1
              clear H1
              obtain rfl := Option.some.inj H
              obtain ⟨Ao32, co32, eo32⟩ := Kd.R_slice HO_4.out
              subst eo32
              go_wp2
              go_ret
              exact ⟨by first | rfl | (simp [errW_none, errW_some] <;> rfl) | (simp [*, errW_none, errW_some] <;> rfl), by repeat (first | (with_reducible first | exact HB.out | apply below_alloc | apply pw_below_drewN | apply below_drew1) | exact HB.out)⟩
            · replace c31 := Bool.eq_false_iff.mpr c31
              subst c31
              have H1 : (some false) = some r := by rw [if_neg (show ¬ (false = true) by decide)] at H; exact H
              clear H
              have H := H1
              clear H1
              obtain rfl := Option.some.inj H
              obtain ⟨Ao33, co33, eo33⟩ := Kd.R_slice HO_4.out
              subst eo33
              go_wp2
              go_ret
              exact ⟨by first | rfl | (simp [errW_none, errW_some] <;> rfl) | (simp [*, errW_none, errW_some] <;> rfl), by repeat (first | (with_reducible first | exact HB.out | apply below_alloc | apply pw_below_drewN | apply below_drew1) | exact HB.out)⟩
    · replace c7 := Bool.eq_false_iff.mpr c7
      subst c7
      have H1 : (if t190 = true then (some ((t191.length : Int) == 0)) else (some false)) = some r := by rw [if_neg (show ¬ (false = true) by decide)] at H; exact H
      clear H
      have H := H1
      clear H1
      by_cases c34 : t190 = true
      · subst c34
        have H1 : (some ((t191.length : Int) == 0)) = some r := by rw [if_pos rfl] at H; exact H
        clear H
        have H := H1
        clear H1
        obtain rfl := Option.some.inj H
        go_enter Tryd.func7, Tryd.ntmps7
        go_wp2_with (first | ((with_reducible refine gate_callee (f := 9) rfl ?_); refine goesL_ (some 7) rfl rfl Tryd.func9 (by kernel_rfl) rfl #[] rfl (by (try simp only [List.map_toArray, List.map_cons, List.map_nil]); first | done | rfl | (simp only [List.length_drop, List.length_take]; rfl)) ?_; (with_reducible refine (phalaropelaw05_awake.calls  true _ A2.out).mono ?_); rintro e w35 ⟨rfl, hb⟩; refine ⟨_, rfl, ?_⟩; have n0_ := Aside0.mk (below_step (by repeat (first | (with_reducible first | exact HB.out | apply below_alloc | apply pw_below_drewN | apply below_drew1) | exact HB.out)) hb); clear HB; have HB := n0_; clear n0_; (try clear hb); (try clear hb2); (try clear hk); (try clear hi)) | ((with_reducible refine gate_callee (f := 14) rfl ?_); refine goesL_ (some 13) rfl rfl Tryd.func14 (by kernel_rfl) rfl #[.string a0] rfl (by (try simp only [List.map_toArray, List.map_cons, List.map_nil]); first | done | rfl | (simp only [List.length_drop, List.length_take]; rfl)) ?_; (with_reducible refine (vname_Split.calls a0 t191 _ A5.out).mono ?_); rintro e w36 ⟨v192, rfl, ho0, hb⟩; refine ⟨_, rfl, ?_⟩; have n0_ := Aside0.mk (Kd.R_lower ho0 (below_size (by repeat (first | (with_reducible first | exact HB.out | apply below_alloc | apply pw_below_drewN | apply below_drew1) | exact HB.out)))); have n1_ := Aside0.mk (below_step (by repeat (first | (with_reducible first | exact HB.out | apply below_alloc | apply pw_below_drewN | apply below_drew1) | exact HB.out)) hb); clear HB; have HO193 := n0_; have HB := n1_; clear n0_ n1_; (try clear hb); (try clear hb2); (try clear hk); (try clear hi); (try clear ho0)) | ((with_reducible refine gate_callee (f := 10) rfl ?_); refine goesL_ (some 15) rfl rfl Tryd.func10 (by kernel_rfl) rfl #[.string a0] rfl (by (try simp only [List.map_toArray, List.map_cons, List.map_nil]); first | done | rfl | (simp only [List.length_drop, List.length_take]; rfl)) ?_; (with_reducible refine (vname_May.calls a0 false _ A6.out).mono ?_); rintro e w37 ⟨rfl, hb⟩; refine ⟨_, rfl, ?_⟩; have n0_ := Aside0.mk (Kd.R_below (by (with_reducible repeat (first | apply Kd.R_alloc | apply Kd.R_drewN | apply Kd.R_drew)); exact HO193.out) hb); have n1_ := Aside0.mk (below_step (by repeat (first | (with_reducible first | exact HB.out | apply below_alloc | apply pw_below_drewN | apply below_drew1) | exact HB.out)) hb); clear HO193; clear HB; have HO193 := n0_; have HB := n1_; clear n0_ n1_; (try clear hb); (try clear hb2); (try clear hk); (try clear hi); obtain ⟨Ao38, co38, eo38⟩ := Kd.R_slice HO193.out; subst eo38))
        go_ret
        exact ⟨by first | rfl | (simp [errW_none, errW_some] <;> rfl) | (simp [*, errW_none, errW_some] <;> rfl), by repeat (first | (with_reducible first | exact HB.out | apply below_alloc | apply pw_below_drewN | apply below_drew1) | exact HB.out)⟩
      · replace c34 := Bool.eq_false_iff.mpr c34
        subst c34
        have H1 : (some false) = some r := by rw [if_neg (show ¬ (false = true) by decide)] at H; exact H
        clear H
        have H := H1
        clear H1
        obtain rfl := Option.some.inj H
        go_enter Tryd.func7, Tryd.ntmps7
        go_wp2_with (first | ((with_reducible refine gate_callee (f := 9) rfl ?_); refine goesL_ (some 7) rfl rfl Tryd.func9 (by kernel_rfl) rfl #[] rfl (by (try simp only [List.map_toArray, List.map_cons, List.map_nil]); first | done | rfl | (simp only [List.length_drop, List.length_take]; rfl)) ?_; (with_reducible refine (phalaropelaw05_awake.calls  false _ A2.out).mono ?_); rintro e w39 ⟨rfl, hb⟩; refine ⟨_, rfl, ?_⟩; have n0_ := Aside0.mk (below_step (by repeat (first | (with_reducible first | exact HB.out | apply below_alloc | apply pw_below_drewN | apply below_drew1) | exact HB.out)) hb); clear HB; have HB := n0_; clear n0_; (try clear hb); (try clear hb2); (try clear hk); (try clear hi)) | ((with_reducible refine gate_callee (f := 14) rfl ?_); refine goesL_ (some 13) rfl rfl Tryd.func14 (by kernel_rfl) rfl #[.string a0] rfl (by (try simp only [List.map_toArray, List.map_cons, List.map_nil]); first | done | rfl | (simp only [List.length_drop, List.length_take]; rfl)) ?_; (with_reducible refine (vname_Split.calls a0 t191 _ A5.out).mono ?_); rintro e w40 ⟨v192, rfl, ho0, hb⟩; refine ⟨_, rfl, ?_⟩; have n0_ := Aside0.mk (Kd.R_lower ho0 (below_size (by repeat (first | (with_reducible first | exact HB.out | apply below_alloc | apply pw_below_drewN | apply below_drew1) | exact HB.out)))); have n1_ := Aside0.mk (below_step (by repeat (first | (with_reducible first | exact HB.out | apply below_alloc | apply pw_below_drewN | apply below_drew1) | exact HB.out)) hb); clear HB; have HO193 := n0_; have HB := n1_; clear n0_ n1_; (try clear hb); (try clear hb2); (try clear hk); (try clear hi); (try clear ho0)) | ((with_reducible refine gate_callee (f := 10) rfl ?_); refine goesL_ (some 15) rfl rfl Tryd.func10 (by kernel_rfl) rfl #[.string a0] rfl (by (try simp only [List.map_toArray, List.map_cons, List.map_nil]); first | done | rfl | (simp only [List.length_drop, List.length_take]; rfl)) ?_; (with_reducible refine (vname_May.calls a0 false _ A6.out).mono ?_); rintro e w41 ⟨rfl, hb⟩; refine ⟨_, rfl, ?_⟩; have n0_ := Aside0.mk (Kd.R_below (by (with_reducible repeat (first | apply Kd.R_alloc | apply Kd.R_drewN | apply Kd.R_drew)); exact HO193.out) hb); have n1_ := Aside0.mk (below_step (by repeat (first | (with_reducible first | exact HB.out | apply below_alloc | apply pw_below_drewN | apply below_drew1) | exact HB.out)) hb); clear HO193; clear HB; have HO193 := n0_; have HB := n1_; clear n0_ n1_; (try clear hb); (try clear hb2); (try clear hk); (try clear hi)))
        go_ret
        exact ⟨by first | rfl | (simp [errW_none, errW_some] <;> rfl) | (simp [*, errW_none, errW_some] <;> rfl), by repeat (first | (with_reducible first | exact HB.out | apply below_alloc | apply pw_below_drewN | apply below_drew1) | exact HB.out)⟩

/-- THE ONE PURE STATEMENT of phalaropelaw05_VnameParts: yours. -/
def phalaropelaw05_VnameParts.Pure : Prop := ∀ (a0 : ByteArray), a0.size ≤ 140737488351232 → ∃ k, phalaropelaw05_VnameParts.f k a0 = some true
theorem phalaropelaw05_VnameParts.walk (P : phalaropelaw05_VnameParts.Pure) (a0 : ByteArray) (w : World) (w0 : a0.size ≤ 140737488351232) :
    Calls Tryd.prog 7 #[.string a0] w fun e w' => e = .returned (.bool true) ∧ Below w.heap.size w w' := by
  obtain ⟨k, h⟩ := P a0 w0
  refine (phalaropelaw05_VnameParts.calls k a0 true w h).mono ?_
  rintro e w' ⟨rfl, hd⟩
  exact ⟨rfl, hd⟩

/-! ### phalaropelaw05_VnameBegins: function 8 -/
mutual
def phalaropelaw05_VnameBegins.j0 : Nat → ByteArray → ByteArray → Bool → Bool → Option (Bool)
  | 0, _, _, _, _ => none
  | k + 1, x0, x1, x5, x16 => if x16 = true then (some x5) else ((vname_Bad.f x0).bind fun t204 => ((vname_End.f x0).bind fun t205 => (if t205 < 0 then (phalaropelaw05_VnameBegins.j1 k x0 x1 x5 t204 t205 true) else (if t205 > t204 then (phalaropelaw05_VnameBegins.j1 k x0 x1 x5 t204 t205 true) else (phalaropelaw05_VnameBegins.j1 k x0 x1 x5 t204 t205 (decide (t204 > (x0.size : Int))))))))
def phalaropelaw05_VnameBegins.j1 : Nat → ByteArray → ByteArray → Bool → Int → Int → Bool → Option (Bool)
  | 0, _, _, _, _, _, _ => none
  | k + 1, x0, x1, x5, x6, x7, x34 => if x34 = true then (some false) else (if x5 = true then (if x7 = 0 then (if 0 ≤ x6 then (if x6 ≤ (x0.size : Int) then ((vname_Bad.f (x0.extract 0 (x6 : Int).toNat)).bind fun t206 => (if t206 = x6 then (if x6 = (x0.size : Int) then ((vname_May.f x0).bind fun t207 => (if x7 = (x0.size : Int) then (some (t207 == (decide (x7 > 0)))) else (some (t207 == false)))) else (if x0.size + x1.size ≤ 9223372036854775807 then ((vname_Bad.f (x0 ++ x1)).bind fun t208 => (if t208 = x6 then ((vname_May.f x0).bind fun t209 => (if x7 = (x0.size : Int) then (some (t209 == (decide (x7 > 0)))) else (some (t209 == false)))) else (some false))) else (none))) else (some false))) else (none)) else (none)) else (if 0 ≤ x7 then (if x7 ≤ (x0.size : Int) then ((vname_May.f (x0.extract 0 (x7 : Int).toNat)).bind fun t210 => (if t210 = true then (if 0 ≤ x6 then (if x6 ≤ (x0.size : Int) then ((vname_Bad.f (x0.extract 0 (x6 : Int).toNat)).bind fun t211 => (if t211 = x6 then (if x6 = (x0.size : Int) then ((vname_May.f x0).bind fun t212 => (if x7 = (x0.size : Int) then (some (t212 == (decide (x7 > 0)))) else (some (t212 == false)))) else (if x0.size + x1.size ≤ 9223372036854775807 then ((vname_Bad.f (x0 ++ x1)).bind fun t213 => (if t213 = x6 then ((vname_May.f x0).bind fun t214 => (if x7 = (x0.size : Int) then (some (t214 == (decide (x7 > 0)))) else (some (t214 == false)))) else (some false))) else (none))) else (some false))) else (none)) else (none)) else (some false))) else (none)) else (none))) else (some false))
end
def phalaropelaw05_VnameBegins.f (k : Nat) (a0 : ByteArray) (a1 : ByteArray) : Option (Bool) := (phalaropelaw05_awake.f).bind fun t203 => (if (a0.size : Int) > 200 then (phalaropelaw05_VnameBegins.j0 k a0 a1 t203 true) else (phalaropelaw05_VnameBegins.j0 k a0 a1 t203 (decide ((a1.size : Int) > 200))))
theorem phalaropelaw05_VnameBegins.mono_l : ∀ k, (∀ y0 y1 y2 y3, LeO (phalaropelaw05_VnameBegins.j0 k y0 y1 y2 y3) (phalaropelaw05_VnameBegins.j0 (k + 1) y0 y1 y2 y3)) ∧ (∀ y0 y1 y2 y3 y4 y5, LeO (phalaropelaw05_VnameBegins.j1 k y0 y1 y2 y3 y4 y5) (phalaropelaw05_VnameBegins.j1 (k + 1) y0 y1 y2 y3 y4 y5))
  | 0 => ⟨fun _ _ _ _ r h => by simp [phalaropelaw05_VnameBegins.j0] at h, fun _ _ _ _ _ _ r h => by simp [phalaropelaw05_VnameBegins.j1] at h⟩
  | k + 1 => by
    obtain ⟨ih0, ih1⟩ := phalaropelaw05_VnameBegins.mono_l k
    refine ⟨?_, ?_⟩
    · intro y0 y1 y2 y3
      unfold phalaropelaw05_VnameBegins.j0
      repeat' first
      | (with_reducible exact ih0 _ _ _ _)
      | (with_reducible exact ih1 _ _ _ _ _ _)
      | (with_reducible exact LeO.refl _)
      | (with_reducible exact LeO.none _)
      | (with_reducible refine LeO.ite ?_ ?_)
      | (with_reducible refine LeO.bind ?_ (fun _ => ?_))
      | exact ih0 _ _ _ _
      | exact ih1 _ _ _ _ _ _
      | exact LeO.none _
      | refine LeO.ite ?_ ?_
      | refine LeO.bind ?_ (fun _ => ?_)
    · intro y0 y1 y2 y3 y4 y5
      unfold phalaropelaw05_VnameBegins.j1
      repeat' first
      | (with_reducible exact ih0 _ _ _ _)
      | (with_reducible exact ih1 _ _ _ _ _ _)
      | (with_reducible exact LeO.refl _)
      | (with_reducible exact LeO.none _)
      | (with_reducible refine LeO.ite ?_ ?_)
      | (with_reducible refine LeO.bind ?_ (fun _ => ?_))
      | exact ih0 _ _ _ _
      | exact ih1 _ _ _ _ _ _
      | exact LeO.none _
      | refine LeO.ite ?_ ?_
      | refine LeO.bind ?_ (fun _ => ?_)
theorem phalaropelaw05_VnameBegins.mono : ∀ a0 a1 k, LeO (phalaropelaw05_VnameBegins.f k a0 a1) (phalaropelaw05_VnameBegins.f (k + 1) a0 a1) := by
  intro a0 a1 k
  obtain ⟨ih0, ih1⟩ := phalaropelaw05_VnameBegins.mono_l k
  unfold phalaropelaw05_VnameBegins.f
  repeat' first
      | (with_reducible exact ih0 _ _ _ _)
      | (with_reducible exact ih1 _ _ _ _ _ _)
      | (with_reducible exact LeO.refl _)
      | (with_reducible exact LeO.none _)
      | (with_reducible refine LeO.ite ?_ ?_)
      | (with_reducible refine LeO.bind ?_ (fun _ => ?_))
      | exact ih0 _ _ _ _
      | exact ih1 _ _ _ _ _ _
      | exact LeO.none _
      | refine LeO.ite ?_ ?_
      | refine LeO.bind ?_ (fun _ => ?_)
set_option maxHeartbeats 8000000 in
set_option maxRecDepth 100000 in
theorem phalaropelaw05_VnameBegins.calls (k : Nat) (a0 : ByteArray) (a1 : ByteArray) (r : Bool) (w : World) (h : phalaropelaw05_VnameBegins.f k a0 a1 = some r) :
    Calls Tryd.prog 8 #[.string a0, .string a1] w fun e w' => e = .returned (.bool r) ∧ Below w.heap.size w w' := by
  have HB := Aside0.mk (Below.refl w.heap.size w)
  have H : ((phalaropelaw05_awake.f).bind fun t203 => (if (a0.size : Int) > 200 then (phalaropelaw05_VnameBegins.j0 k a0 a1 t203 true) else (phalaropelaw05_VnameBegins.j0 k a0 a1 t203 (decide ((a1.size : Int) > 200))))) = some r := h
  clear h
  replace H := Option.bind_eq_some_iff.mp H
  obtain ⟨t203, A30, H⟩ := H
  replace H : (if (a0.size : Int) > 200 then (phalaropelaw05_VnameBegins.j0 k a0 a1 t203 true) else (phalaropelaw05_VnameBegins.j0 k a0 a1 t203 (decide ((a1.size : Int) > 200)))) = some r := H
  have A3 := Aside0.mk A30
  clear A30
  have HC4 := Aside0.mk H
  clear H
  go_enter Tryd.func8, Tryd.ntmps8
  go_upto_region 2 with (first | ((with_reducible refine gate_callee (f := 9) rfl ?_); refine goesL_ (some 8) rfl rfl Tryd.func9 (by kernel_rfl) rfl #[] rfl (by (try simp only [List.map_toArray, List.map_cons, List.map_nil]); first | done | rfl | (simp only [List.length_drop, List.length_take]; rfl)) ?_; (with_reducible refine (phalaropelaw05_awake.calls  t203 _ A3.out).mono ?_); rintro e w5 ⟨rfl, hb⟩; refine ⟨_, rfl, ?_⟩; have n0_ := Aside0.mk (below_step (by repeat (first | (with_reducible first | exact HB.out | apply below_alloc | apply pw_below_drewN | apply below_drew1) | exact HB.out)) hb); clear HB; have HB := n0_; clear n0_; (try clear hb); (try clear hb2); (try clear hk); (try clear hi)))
  (try simp only [Act.put, List.setIfInBounds_toArray, List.set_cons_zero, List.set_cons_succ])
  go_cut [16] (fun v16 wc => ∃ (kq : Nat) (x16_3 : Bool), v16 = .bool x16_3 ∧ Aside0 (phalaropelaw05_VnameBegins.j0 kq a0 a1 t203 x16_3 = some r) ∧ Aside0 (kq ≤ k) ∧ Aside0 (Below w.heap.size w wc))
  case first =>
    have H := HC4.out
    clear HC4
    by_cases c6 : (a0.size : Int) > 200
    · rw [if_pos c6] at H
      have c6b0 : decide (200 < (a0.size : Int)) = true := decide_eq_true c6
      have c6b1 : decide (200 < a0.size) = true := decide_eq_true (by omega)
      clear c6
      (first | rw [c6b0] | (simp only [i64_w, i32_w]; rw [c6b0]) | skip)
      have H' := Aside0.mk H
      clear H
      go_wp2
      go_meet
      case rel => exact ⟨_, (true), (by first | rfl | (simp; done) | (simp [*]; done)), H', ⟨by first | omega | exact Nat.le_refl _⟩, ⟨by repeat (first | (with_reducible first | exact HB.out | apply below_alloc | apply pw_below_drewN | apply below_drew1) | exact HB.out)⟩⟩
    · rw [if_neg c6] at H
      have c6b0 : decide (200 < (a0.size : Int)) = false := decide_eq_false c6
      have c6b1 : decide (200 < a0.size) = false := decide_eq_false (by omega)
      clear c6
      (first | rw [c6b0] | (simp only [i64_w, i32_w]; rw [c6b0]) | skip)
      have H' := Aside0.mk H
      clear H
      go_wp2
      go_meet
      case rel => exact ⟨_, (decide ((a1.size : Int) > 200)), (by first | rfl | (simp; done) | (simp [*]; done)), H', ⟨by first | omega | exact Nat.le_refl _⟩, ⟨by repeat (first | (with_reducible first | exact HB.out | apply below_alloc | apply pw_below_drewN | apply below_drew1) | exact HB.out)⟩⟩
  case rest =>
    clear HC4
    try clear p2
    try clear c6
    try clear c6b0
    try clear c6b1
    obtain ⟨kq, x16_3, rfl, HA, HJ3, HB⟩ := hcut
    cases kq with
    | zero => exact absurd HA.out (by simp [phalaropelaw05_VnameBegins.j0])
    | succ kj3 =>
      have H := HA.out
      clear HA
      simp only [phalaropelaw05_VnameBegins.j0] at H
      by_cases c7 : x16_3 = true
      · subst c7
        have H1 : (some t203) = some r := by rw [if_pos rfl] at H; exact H
        clear H
        have H := H1
        clear H1
        obtain rfl := Option.some.inj H
        go_wp2
        go_ret
        exact ⟨by first | rfl | (simp [errW_none, errW_some] <;> rfl) | (simp [*, errW_none, errW_some] <;> rfl), by repeat (first | (with_reducible first | exact HB.out | apply below_alloc | apply pw_below_drewN | apply below_drew1) | exact HB.out)⟩
      · replace c7 := Bool.eq_false_iff.mpr c7
        subst c7
        have H1 : ((vname_Bad.f a0).bind fun t204 => ((vname_End.f a0).bind fun t205 => (if t205 < 0 then (phalaropelaw05_VnameBegins.j1 kj3 a0 a1 t203 t204 t205 true) else (if t205 > t204 then (phalaropelaw05_VnameBegins.j1 kj3 a0 a1 t203 t204 t205 true) else (phalaropelaw05_VnameBegins.j1 kj3 a0 a1 t203 t204 t205 (decide (t204 > (a0.size : Int)))))))) = some r := by rw [if_neg (show ¬ (false = true) by decide)] at H; exact H
        clear H
        have H := H1
        clear H1
        replace H := Option.bind_eq_some_iff.mp H
        obtain ⟨t204, A80, H⟩ := H
        replace H : ((vname_End.f a0).bind fun t205 => (if t205 < 0 then (phalaropelaw05_VnameBegins.j1 kj3 a0 a1 t203 t204 t205 true) else (if t205 > t204 then (phalaropelaw05_VnameBegins.j1 kj3 a0 a1 t203 t204 t205 true) else (phalaropelaw05_VnameBegins.j1 kj3 a0 a1 t203 t204 t205 (decide (t204 > (a0.size : Int))))))) = some r := H
        have A8 := Aside0.mk A80
        clear A80
        replace H := Option.bind_eq_some_iff.mp H
        obtain ⟨t205, A90, H⟩ := H
        replace H : (if t205 < 0 then (phalaropelaw05_VnameBegins.j1 kj3 a0 a1 t203 t204 t205 true) else (if t205 > t204 then (phalaropelaw05_VnameBegins.j1 kj3 a0 a1 t203 t204 t205 true) else (phalaropelaw05_VnameBegins.j1 kj3 a0 a1 t203 t204 t205 (decide (t204 > (a0.size : Int)))))) = some r := H
        have A9 := Aside0.mk A90
        clear A90
        have HC10 := Aside0.mk H
        clear H
        go_upto_region 6 with (first | ((with_reducible refine gate_callee (f := 13) rfl ?_); refine goesL_ (some 19) rfl rfl Tryd.func13 (by kernel_rfl) rfl #[.string a0] rfl (by (try simp only [List.map_toArray, List.map_cons, List.map_nil]); first | done | rfl | (simp only [List.length_drop, List.length_take]; rfl)) ?_; (with_reducible refine (vname_Bad.calls a0 t204 _ A8.out).mono ?_); rintro e w11 ⟨rfl, hb⟩; refine ⟨_, rfl, ?_⟩; have n0_ := Aside0.mk (below_step (by repeat (first | (with_reducible first | exact HB.out | apply below_alloc | apply pw_below_drewN | apply below_drew1) | exact HB.out)) hb); clear HB; have HB := n0_; clear n0_; (try clear hb); (try clear hb2); (try clear hk); (try clear hi)) | ((with_reducible refine gate_callee (f := 11) rfl ?_); refine goesL_ (some 21) rfl rfl Tryd.func11 (by kernel_rfl) rfl #[.string a0] rfl (by (try simp only [List.map_toArray, List.map_cons, List.map_nil]); first | done | rfl | (simp only [List.length_drop, List.length_take]; rfl)) ?_; (with_reducible refine (vname_End.calls a0 t205 _ A9.out).mono ?_); rintro e w12 ⟨rfl, hb⟩; refine ⟨_, rfl, ?_⟩; have n0_ := Aside0.mk (below_step (by repeat (first | (with_reducible first | exact HB.out | apply below_alloc | apply pw_below_drewN | apply below_drew1) | exact HB.out)) hb); clear HB; have HB := n0_; clear n0_; (try clear hb); (try clear hb2); (try clear hk); (try clear hi)))
        (try simp only [Act.put, List.setIfInBounds_toArray, List.set_cons_zero, List.set_cons_succ])
        go_cut [34] (fun v34 wc => ∃ (kq : Nat) (x34_9 : Bool), v34 = .bool x34_9 ∧ Aside0 (phalaropelaw05_VnameBegins.j1 kq a0 a1 t203 t204 t205 x34_9 = some r) ∧ Aside0 (kq ≤ kj3) ∧ Aside0 (Below w.heap.size w wc))
        case first =>
          have H := HC10.out
          clear HC10
          by_cases c13 : t205 < 0
          · rw [if_pos c13] at H
            have c13b0 : decide (t205 < 0) = true := decide_eq_true c13
            clear c13
            (first | rw [c13b0] | (simp only [i64_w, i32_w]; rw [c13b0]) | skip)
            have H' := Aside0.mk H
            clear H
            go_wp2
            go_meet
            case rel => exact ⟨_, (true), (by first | rfl | (simp; done) | (simp [*]; done)), H', ⟨by have := HJ3.out; first | omega | exact Nat.le_refl _⟩, ⟨by repeat (first | (with_reducible first | exact HB.out | apply below_alloc | apply pw_below_drewN | apply below_drew1) | exact HB.out)⟩⟩
          · rw [if_neg c13] at H
            have c13b0 : decide (t205 < 0) = false := decide_eq_false c13
            clear c13
            (first | rw [c13b0] | (simp only [i64_w, i32_w]; rw [c13b0]) | skip)
            by_cases c14 : t205 > t204
            · rw [if_pos c14] at H
              have c14b0 : decide (t204 < t205) = true := decide_eq_true c14
              clear c14
              have H' := Aside0.mk H
              clear H
              go_wp2
              go_meet
              case rel => exact ⟨_, (true), (by first | rfl | (simp; done) | (simp [*]; done)), H', ⟨by have := HJ3.out; first | omega | exact Nat.le_refl _⟩, ⟨by repeat (first | (with_reducible first | exact HB.out | apply below_alloc | apply pw_below_drewN | apply below_drew1) | exact HB.out)⟩⟩
            · rw [if_neg c14] at H
              have c14b0 : decide (t204 < t205) = false := decide_eq_false c14
              clear c14
              have H' := Aside0.mk H
              clear H
              go_wp2
              go_meet
              case rel => exact ⟨_, (decide (t204 > (a0.size : Int))), (by first | rfl | (simp; done) | (simp [*]; done)), H', ⟨by have := HJ3.out; first | omega | exact Nat.le_refl _⟩, ⟨by repeat (first | (with_reducible first | exact HB.out | apply below_alloc | apply pw_below_drewN | apply below_drew1) | exact HB.out)⟩⟩
        case rest =>
          clear HC10
          try clear c1
          try clear p2
          try clear c6
          try clear c6b0
          try clear c6b1
          try clear c7
          try clear c8
          try clear c9
          try clear c11
          try clear c13
          try clear c13b0
          try clear c14
          try clear c14b0
          try clear p2
          obtain ⟨kq, x34_9, rfl, HA, HJ9, HB⟩ := hcut
          cases kq with
          | zero => exact absurd HA.out (by simp [phalaropelaw05_VnameBegins.j1])
          | succ kj9 =>
            have H := HA.out
            clear HA
            simp only [phalaropelaw05_VnameBegins.j1] at H
            by_cases c15 : x34_9 = true
            · subst c15
              have H1 : (some false) = some r := by rw [if_pos rfl] at H; exact H
              clear H
              have H := H1
              clear H1
              obtain rfl := Option.some.inj H
              go_wp2
              go_ret
              exact ⟨by first | rfl | (simp [errW_none, errW_some] <;> rfl) | (simp [*, errW_none, errW_some] <;> rfl), by repeat (first | (with_reducible first | exact HB.out | apply below_alloc | apply pw_below_drewN | apply below_drew1) | exact HB.out)⟩
            · replace c15 := Bool.eq_false_iff.mpr c15
              subst c15
              have H1 : (if t203 = true then (if t205 = 0 then (if 0 ≤ t204 then (if t204 ≤ (a0.size : Int) then ((vname_Bad.f (a0.extract 0 (t204 : Int).toNat)).bind fun t206 => (if t206 = t204 then (if t204 = (a0.size : Int) then ((vname_May.f a0).bind fun t207 => (if t205 = (a0.size : Int) then (some (t207 == (decide (t205 > 0)))) else (some (t207 == false)))) else (if a0.size + a1.size ≤ 9223372036854775807 then ((vname_Bad.f (a0 ++ a1)).bind fun t208 => (if t208 = t204 then ((vname_May.f a0).bind fun t209 => (if t205 = (a0.size : Int) then (some (t209 == (decide (t205 > 0)))) else (some (t209 == false)))) else (some false))) else (none))) else (some false))) else (none)) else (none)) else (if 0 ≤ t205 then (if t205 ≤ (a0.size : Int) then ((vname_May.f (a0.extract 0 (t205 : Int).toNat)).bind fun t210 => (if t210 = true then (if 0 ≤ t204 then (if t204 ≤ (a0.size : Int) then ((vname_Bad.f (a0.extract 0 (t204 : Int).toNat)).bind fun t211 => (if t211 = t204 then (if t204 = (a0.size : Int) then ((vname_May.f a0).bind fun t212 => (if t205 = (a0.size : Int) then (some (t212 == (decide (t205 > 0)))) else (some (t212 == false)))) else (if a0.size + a1.size ≤ 9223372036854775807 then ((vname_Bad.f (a0 ++ a1)).bind fun t213 => (if t213 = t204 then ((vname_May.f a0).bind fun t214 => (if t205 = (a0.size : Int) then (some (t214 == (decide (t205 > 0)))) else (some (t214 == false)))) else (some false))) else (none))) else (some false))) else (none)) else (none)) else (some false))) else (none)) else (none))) else (some false)) = some r := by rw [if_neg (show ¬ (false = true) by decide)] at H; exact H
              clear H
              have H := H1
              clear H1
              by_cases c16 : t203 = true
              · subst c16
                have H1 : (if t205 = 0 then (if 0 ≤ t204 then (if t204 ≤ (a0.size : Int) then ((vname_Bad.f (a0.extract 0 (t204 : Int).toNat)).bind fun t206 => (if t206 = t204 then (if t204 = (a0.size : Int) then ((vname_May.f a0).bind fun t207 => (if t205 = (a0.size : Int) then (some (t207 == (decide (t205 > 0)))) else (some (t207 == false)))) else (if a0.size + a1.size ≤ 9223372036854775807 then ((vname_Bad.f (a0 ++ a1)).bind fun t208 => (if t208 = t204 then ((vname_May.f a0).bind fun t209 => (if t205 = (a0.size : Int) then (some (t209 == (decide (t205 > 0)))) else (some (t209 == false)))) else (some false))) else (none))) else (some false))) else (none)) else (none)) else (if 0 ≤ t205 then (if t205 ≤ (a0.size : Int) then ((vname_May.f (a0.extract 0 (t205 : Int).toNat)).bind fun t210 => (if t210 = true then (if 0 ≤ t204 then (if t204 ≤ (a0.size : Int) then ((vname_Bad.f (a0.extract 0 (t204 : Int).toNat)).bind fun t211 => (if t211 = t204 then (if t204 = (a0.size : Int) then ((vname_May.f a0).bind fun t212 => (if t205 = (a0.size : Int) then (some (t212 == (decide (t205 > 0)))) else (some (t212 == false)))) else (if a0.size + a1.size ≤ 9223372036854775807 then ((vname_Bad.f (a0 ++ a1)).bind fun t213 => (if t213 = t204 then ((vname_May.f a0).bind fun t214 => (if t205 = (a0.size : Int) then (some (t214 == (decide (t205 > 0)))) else (some (t214 == false)))) else (some false))) else (none))) else (some false))) else (none)) else (none)) else (some false))) else (none)) else (none))) = some r := by rw [if_pos rfl] at H; exact H
                clear H
                have H := H1
                clear H1
                by_cases c17 : t205 = 0
                · rw [if_pos c17] at H
                  have c17b0 : (t205 == 0) = true := beq_iff_eq.mpr c17
                  have c17b1 : (t205 != 0) = false := bne_eq_false_iff_eq.mpr c17
                  clear c17
                  by_cases c18 : 0 ≤ t204
                  · rw [if_pos c18] at H
                    have c18b0 := eq_true c18
                    have c18b1 : decide (0 ≤ t204) = true := decide_eq_true c18
                    clear c18
                    by_cases c19 : t204 ≤ (a0.size : Int)
                    · rw [if_pos c19] at H
                      have c19b0 := eq_true c19
                      have c19b1 : decide (t204 ≤ (a0.size : Int)) = true := decide_eq_true c19
                      clear c19
                      replace H := Option.bind_eq_some_iff.mp H
                      obtain ⟨t206, A200, H⟩ := H
                      replace H : (if t206 = t204 then (if t204 = (a0.size : Int) then ((vname_May.f a0).bind fun t207 => (if t205 = (a0.size : Int) then (some (t207 == (decide (t205 > 0)))) else (some (t207 == false)))) else (if a0.size + a1.size ≤ 9223372036854775807 then ((vname_Bad.f (a0 ++ a1)).bind fun t208 => (if t208 = t204 then ((vname_May.f a0).bind fun t209 => (if t205 = (a0.size : Int) then (some (t209 == (decide (t205 > 0)))) else (some (t209 == false)))) else (some false))) else (none))) else (some false)) = some r := H
                      have A20 := Aside0.mk A200
                      clear A200
                      by_cases c21 : t206 = t204
                      · rw [if_pos c21] at H
                        have c21b0 : (t206 == t204) = true := beq_iff_eq.mpr c21
                        have c21b1 : (t206 != t204) = false := bne_eq_false_iff_eq.mpr c21
                        clear c21
                        by_cases c22 : t204 = (a0.size : Int)
                        · rw [if_pos c22] at H
                          have c22b0 : (t204 == (a0.size : Int)) = true := beq_iff_eq.mpr c22
                          have c22b1 : (t204 != (a0.size : Int)) = false := bne_eq_false_iff_eq.mpr c22
                          clear c22
                          replace H := Option.bind_eq_some_iff.mp H
                          obtain ⟨t207, A230, H⟩ := H
                          replace H : (if t205 = (a0.size : Int) then (some (t207 == (decide (t205 > 0)))) else (some (t207 == false))) = some r := H
                          have A23 := Aside0.mk A230
                          clear A230
                          by_cases c24 : t205 = (a0.size : Int)
                          · rw [if_pos c24] at H
                            have c24b0 : (t205 == (a0.size : Int)) = true := beq_iff_eq.mpr c24
                            have c24b1 : (t205 != (a0.size : Int)) = false := bne_eq_false_iff_eq.mpr c24
                            clear c24
                            obtain rfl := Option.some.inj H
                            go_wp2_with (first | (go_at_call 13; (with_reducible refine (vname_Bad.calls (a0.extract 0 (t204 : Int).toNat) t206 _ A20.out).mono ?_); rintro e w25 ⟨rfl, hb⟩; have n0_ := Aside0.mk (below_step (by repeat (first | (with_reducible first | exact HB.out | apply below_alloc | apply pw_below_drewN | apply below_drew1) | exact HB.out)) hb); clear HB; have HB := n0_; clear n0_; (try clear hb); (try clear hb2); (try clear hk); (try clear hi)) | (go_at_call 10; (with_reducible refine (vname_May.calls a0 t207 _ A23.out).mono ?_); rintro e w26 ⟨rfl, hb⟩; have n0_ := Aside0.mk (below_step (by repeat (first | (with_reducible first | exact HB.out | apply below_alloc | apply pw_below_drewN | apply below_drew1) | exact HB.out)) hb); clear HB; have HB := n0_; clear n0_; (try clear hb); (try clear hb2); (try clear hk); (try clear hi)))
                            go_ret
                            exact ⟨by first | rfl | (simp [errW_none, errW_some] <;> rfl) | (simp [*, errW_none, errW_some] <;> rfl), by repeat (first | (with_reducible first | exact HB.out | apply below_alloc | apply pw_below_drewN | apply below_drew1) | exact HB.out)⟩
                          · rw [if_neg c24] at H
                            have c24b0 : (t205 == (a0.size : Int)) = false := beq_eq_false_iff_ne.mpr c24
                            have c24b1 : (t205 != (a0.size : Int)) = true := bne_iff_ne.mpr c24
                            obtain rfl := Option.some.inj H
                            go_wp2_with (first | (go_at_call 13; (with_reducible refine (vname_Bad.calls (a0.extract 0 (t204 : Int).toNat) t206 _ A20.out).mono ?_); rintro e w27 ⟨rfl, hb⟩; have n0_ := Aside0.mk (below_step (by repeat (first | (with_reducible first | exact HB.out | apply below_alloc | apply pw_below_drewN | apply below_drew1) | exact HB.out)) hb); clear HB; have HB := n0_; clear n0_; (try clear hb); (try clear hb2); (try clear hk); (try clear hi)) | (go_at_call 10; (with_reducible refine (vname_May.calls a0 t207 _ A23.out).mono ?_); rintro e w28 ⟨rfl, hb⟩; have n0_ := Aside0.mk (below_step (by repeat (first | (with_reducible first | exact HB.out | apply below_alloc | apply pw_below_drewN | apply below_drew1) | exact HB.out)) hb); clear HB; have HB := n0_; clear n0_; (try clear hb); (try clear hb2); (try clear hk); (try clear hi)))
                            go_ret
                            exact ⟨by first | rfl | (simp [errW_none, errW_some] <;> rfl) | (simp [*, errW_none, errW_some] <;> rfl), by repeat (first | (with_reducible first | exact HB.out | apply below_alloc | apply pw_below_drewN | apply below_drew1) | exact HB.out)⟩
                        · rw [if_neg c22] at H
                          have c22b0 : (t204 == (a0.size : Int)) = false := beq_eq_false_iff_ne.mpr c22
                          have c22b1 : (t204 != (a0.size : Int)) = true := bne_iff_ne.mpr c22
                          by_cases c29 : a0.size + a1.size ≤ 9223372036854775807
                          · rw [if_pos c29] at H
                            have c29b0 := eq_true c29
                            have c29b1 : decide (a0.size + a1.size ≤ 9223372036854775807) = true := decide_eq_true c29
                            try have c29b2 : (9223372036854775807 < a0.size + a1.size) = False := eq_false (Nat.not_lt.2 c29)
                            replace H := Option.bind_eq_some_iff.mp H
                            obtain ⟨t208, A300, H⟩ := H
                            replace H : (if t208 = t204 then ((vname_May.f a0).bind fun t209 => (if t205 = (a0.size : Int) then (some (t209 == (decide (t205 > 0)))) else (some (t209 == false)))) else (some false)) = some r := H
                            have A30 := Aside0.mk A300
                            clear A300
                            by_cases c31 : t208 = t204
                            · rw [if_pos c31] at H
                              have c31b0 : (t208 == t204) = true := beq_iff_eq.mpr c31
                              have c31b1 : (t208 != t204) = false := bne_eq_false_iff_eq.mpr c31
                              clear c31
                              replace H := Option.bind_eq_some_iff.mp H
                              obtain ⟨t209, A320, H⟩ := H
                              replace H : (if t205 = (a0.size : Int) then (some (t209 == (decide (t205 > 0)))) else (some (t209 == false))) = some r := H
                              have A32 := Aside0.mk A320
                              clear A320
                              by_cases c33 : t205 = (a0.size : Int)
                              · rw [if_pos c33] at H
                                have c33b0 : (t205 == (a0.size : Int)) = true := beq_iff_eq.mpr c33
                                have c33b1 : (t205 != (a0.size : Int)) = false := bne_eq_false_iff_eq.mpr c33
                                clear c33
                                obtain rfl := Option.some.inj H
                                go_wp2_with (first | (go_at_call 13; (with_reducible refine (vname_Bad.calls (a0.extract 0 (t204 : Int).toNat) t206 _ A20.out).mono ?_); rintro e w34 ⟨rfl, hb⟩; have n0_ := Aside0.mk (below_step (by repeat (first | (with_reducible first | exact HB.out | apply below_alloc | apply pw_below_drewN | apply below_drew1) | exact HB.out)) hb); clear HB; have HB := n0_; clear n0_; (try clear hb); (try clear hb2); (try clear hk); (try clear hi)) | (go_at_call 13; (with_reducible refine (vname_Bad.calls (a0 ++ a1) t208 _ A30.out).mono ?_); rintro e w35 ⟨rfl, hb⟩; have n0_ := Aside0.mk (below_step (by repeat (first | (with_reducible first | exact HB.out | apply below_alloc | apply pw_below_drewN | apply below_drew1) | exact HB.out)) hb); clear HB; have HB := n0_; clear n0_; (try clear hb); (try clear hb2); (try clear hk); (try clear hi)) | (go_at_call 10; (with_reducible refine (vname_May.calls a0 t209 _ A32.out).mono ?_); rintro e w36 ⟨rfl, hb⟩; have n0_ := Aside0.mk (below_step (by repeat (first | (with_reducible first | exact HB.out | apply below_alloc | apply pw_below_drewN | apply below_drew1) | exact HB.out)) hb); clear HB; have HB := n0_; clear n0_; (try clear hb); (try clear hb2); (try clear hk); (try clear hi)))
                                go_ret
                                exact ⟨by first | rfl | (simp [errW_none, errW_some] <;> rfl) | (simp [*, errW_none, errW_some] <;> rfl), by repeat (first | (with_reducible first | exact HB.out | apply below_alloc | apply pw_below_drewN | apply below_drew1) | exact HB.out)⟩
                              · rw [if_neg c33] at H
                                have c33b0 : (t205 == (a0.size : Int)) = false := beq_eq_false_iff_ne.mpr c33
                                have c33b1 : (t205 != (a0.size : Int)) = true := bne_iff_ne.mpr c33
                                obtain rfl := Option.some.inj H
                                go_wp2_with (first | (go_at_call 13; (with_reducible refine (vname_Bad.calls (a0.extract 0 (t204 : Int).toNat) t206 _ A20.out).mono ?_); rintro e w37 ⟨rfl, hb⟩; have n0_ := Aside0.mk (below_step (by repeat (first | (with_reducible first | exact HB.out | apply below_alloc | apply pw_below_drewN | apply below_drew1) | exact HB.out)) hb); clear HB; have HB := n0_; clear n0_; (try clear hb); (try clear hb2); (try clear hk); (try clear hi)) | (go_at_call 13; (with_reducible refine (vname_Bad.calls (a0 ++ a1) t208 _ A30.out).mono ?_); rintro e w38 ⟨rfl, hb⟩; have n0_ := Aside0.mk (below_step (by repeat (first | (with_reducible first | exact HB.out | apply below_alloc | apply pw_below_drewN | apply below_drew1) | exact HB.out)) hb); clear HB; have HB := n0_; clear n0_; (try clear hb); (try clear hb2); (try clear hk); (try clear hi)) | (go_at_call 10; (with_reducible refine (vname_May.calls a0 t209 _ A32.out).mono ?_); rintro e w39 ⟨rfl, hb⟩; have n0_ := Aside0.mk (below_step (by repeat (first | (with_reducible first | exact HB.out | apply below_alloc | apply pw_below_drewN | apply below_drew1) | exact HB.out)) hb); clear HB; have HB := n0_; clear n0_; (try clear hb); (try clear hb2); (try clear hk); (try clear hi)))
                                go_ret
                                exact ⟨by first | rfl | (simp [errW_none, errW_some] <;> rfl) | (simp [*, errW_none, errW_some] <;> rfl), by repeat (first | (with_reducible first | exact HB.out | apply below_alloc | apply pw_below_drewN | apply below_drew1) | exact HB.out)⟩
                            · rw [if_neg c31] at H
                              have c31b0 : (t208 == t204) = false := beq_eq_false_iff_ne.mpr c31
                              have c31b1 : (t208 != t204) = true := bne_iff_ne.mpr c31
                              obtain rfl := Option.some.inj H
                              go_wp2_with (first | (go_at_call 13; (with_reducible refine (vname_Bad.calls (a0.extract 0 (t204 : Int).toNat) t206 _ A20.out).mono ?_); rintro e w40 ⟨rfl, hb⟩; have n0_ := Aside0.mk (below_step (by repeat (first | (with_reducible first | exact HB.out | apply below_alloc | apply pw_below_drewN | apply below_drew1) | exact HB.out)) hb); clear HB; have HB := n0_; clear n0_; (try clear hb); (try clear hb2); (try clear hk); (try clear hi)) | (go_at_call 13; (with_reducible refine (vname_Bad.calls (a0 ++ a1) t208 _ A30.out).mono ?_); rintro e w41 ⟨rfl, hb⟩; have n0_ := Aside0.mk (below_step (by repeat (first | (with_reducible first | exact HB.out | apply below_alloc | apply pw_below_drewN | apply below_drew1) | exact HB.out)) hb); clear HB; have HB := n0_; clear n0_; (try clear hb); (try clear hb2); (try clear hk); (try clear hi)))
                              go_ret
                              exact ⟨by first | rfl | (simp [errW_none, errW_some] <;> rfl) | (simp [*, errW_none, errW_some] <;> rfl), by repeat (first | (with_reducible first | exact HB.out | apply below_alloc | apply pw_below_drewN | apply below_drew1) | exact HB.out)⟩
                          · rw [if_neg c29] at H
                            exact absurd H (by simp)
                      · rw [if_neg c21] at H
                        have c21b0 : (t206 == t204) = false := beq_eq_false_iff_ne.mpr c21
                        have c21b1 : (t206 != t204) = true := bne_iff_ne.mpr c21
                        obtain rfl := Option.some.inj H
                        go_wp2_with (first | (go_at_call 13; (with_reducible refine (vname_Bad.calls (a0.extract 0 (t204 : Int).toNat) t206 _ A20.out).mono ?_); rintro e w42 ⟨rfl, hb⟩; have n0_ := Aside0.mk (below_step (by repeat (first | (with_reducible first | exact HB.out | apply below_alloc | apply pw_below_drewN | apply below_drew1) | exact HB.out)) hb); clear HB; have HB := n0_; clear n0_; (try clear hb); (try clear hb2); (try clear hk); (try clear hi)))
                        go_ret
                        exact ⟨by first | rfl | (simp [errW_none, errW_some] <;> rfl) | (simp [*, errW_none, errW_some] <;> rfl), by repeat (first | (with_reducible first | exact HB.out | apply below_alloc | apply pw_below_drewN | apply below_drew1) | exact HB.out)⟩
                    · rw [if_neg c19] at H
                      exact absurd H (by simp)
                  · rw [if_neg c18] at H
                    exact absurd H (by simp)
                · rw [if_neg c17] at H
                  have c17b0 : (t205 == 0) = false := beq_eq_false_iff_ne.mpr c17
                  have c17b1 : (t205 != 0) = true := bne_iff_ne.mpr c17
                  by_cases c43 : 0 ≤ t205
                  · rw [if_pos c43] at H
                    have c43b0 := eq_true c43
                    have c43b1 : decide (0 ≤ t205) = true := decide_eq_true c43
                    clear c43
                    by_cases c44 : t205 ≤ (a0.size : Int)
                    · rw [if_pos c44] at H
                      have c44b0 := eq_true c44
                      have c44b1 : decide (t205 ≤ (a0.size : Int)) = true := decide_eq_true c44
                      clear c44
                      replace H := Option.bind_eq_some_iff.mp H
                      obtain ⟨t210, A450, H⟩ := H
                      replace H : (if t210 = true then (if 0 ≤ t204 then (if t204 ≤ (a0.size : Int) then ((vname_Bad.f (a0.extract 0 (t204 : Int).toNat)).bind fun t211 => (if t211 = t204 then (if t204 = (a0.size : Int) then ((vname_May.f a0).bind fun t212 => (if t205 = (a0.size : Int) then (some (t212 == (decide (t205 > 0)))) else (some (t212 == false)))) else (if a0.size + a1.size ≤ 9223372036854775807 then ((vname_Bad.f (a0 ++ a1)).bind fun t213 => (if t213 = t204 then ((vname_May.f a0).bind fun t214 => (if t205 = (a0.size : Int) then (some (t214 == (decide (t205 > 0)))) else (some (t214 == false)))) else (some false))) else (none))) else (some false))) else (none)) else (none)) else (some false)) = some r := H
                      have A45 := Aside0.mk A450
                      clear A450
                      by_cases c46 : t210 = true
                      · subst c46
                        have H1 : (if 0 ≤ t204 then (if t204 ≤ (a0.size : Int) then ((vname_Bad.f (a0.extract 0 (t204 : Int).toNat)).bind fun t211 => (if t211 = t204 then (if t204 = (a0.size : Int) then ((vname_May.f a0).bind fun t212 => (if t205 = (a0.size : Int) then (some (t212 == (decide (t205 > 0)))) else (some (t212 == false)))) else (if a0.size + a1.size ≤ 9223372036854775807 then ((vname_Bad.f (a0 ++ a1)).bind fun t213 => (if t213 = t204 then ((vname_May.f a0).bind fun t214 => (if t205 = (a0.size : Int) then (some (t214 == (decide (t205 > 0)))) else (some (t214 == false)))) else (some false))) else (none))) else (some false))) else (none)) else (none)) = some r := by rw [if_pos rfl] at H; exact H
                        clear H
                        have H := H1
                        clear H1
                        by_cases c47 : 0 ≤ t204
                        · rw [if_pos c47] at H
                          have c47b0 := eq_true c47
                          have c47b1 : decide (0 ≤ t204) = true := decide_eq_true c47
                          clear c47
                          by_cases c48 : t204 ≤ (a0.size : Int)
                          · rw [if_pos c48] at H
                            have c48b0 := eq_true c48
                            have c48b1 : decide (t204 ≤ (a0.size : Int)) = true := decide_eq_true c48
                            clear c48
                            replace H := Option.bind_eq_some_iff.mp H
                            obtain ⟨t211, A490, H⟩ := H
                            replace H : (if t211 = t204 then (if t204 = (a0.size : Int) then ((vname_May.f a0).bind fun t212 => (if t205 = (a0.size : Int) then (some (t212 == (decide (t205 > 0)))) else (some (t212 == false)))) else (if a0.size + a1.size ≤ 9223372036854775807 then ((vname_Bad.f (a0 ++ a1)).bind fun t213 => (if t213 = t204 then ((vname_May.f a0).bind fun t214 => (if t205 = (a0.size : Int) then (some (t214 == (decide (t205 > 0)))) else (some (t214 == false)))) else (some false))) else (none))) else (some false)) = some r := H
                            have A49 := Aside0.mk A490
                            clear A490
                            by_cases c50 : t211 = t204
                            · rw [if_pos c50] at H
                              have c50b0 : (t211 == t204) = true := beq_iff_eq.mpr c50
                              have c50b1 : (t211 != t204) = false := bne_eq_false_iff_eq.mpr c50
                              clear c50
                              by_cases c51 : t204 = (a0.size : Int)
                              · rw [if_pos c51] at H
                                have c51b0 : (t204 == (a0.size : Int)) = true := beq_iff_eq.mpr c51
                                have c51b1 : (t204 != (a0.size : Int)) = false := bne_eq_false_iff_eq.mpr c51
                                clear c51
                                replace H := Option.bind_eq_some_iff.mp H
                                obtain ⟨t212, A520, H⟩ := H
                                replace H : (if t205 = (a0.size : Int) then (some (t212 == (decide (t205 > 0)))) else (some (t212 == false))) = some r := H
                                have A52 := Aside0.mk A520
                                clear A520
                                by_cases c53 : t205 = (a0.size : Int)
                                · rw [if_pos c53] at H
                                  have c53b0 : (t205 == (a0.size : Int)) = true := beq_iff_eq.mpr c53
                                  have c53b1 : (t205 != (a0.size : Int)) = false := bne_eq_false_iff_eq.mpr c53
                                  clear c53
                                  obtain rfl := Option.some.inj H
                                  go_wp2_with (first | (go_at_call 10; (with_reducible refine (vname_May.calls (a0.extract 0 (t205 : Int).toNat) true _ A45.out).mono ?_); rintro e w54 ⟨rfl, hb⟩; have n0_ := Aside0.mk (below_step (by repeat (first | (with_reducible first | exact HB.out | apply below_alloc | apply pw_below_drewN | apply below_drew1) | exact HB.out)) hb); clear HB; have HB := n0_; clear n0_; (try clear hb); (try clear hb2); (try clear hk); (try clear hi)) | (go_at_call 13; (with_reducible refine (vname_Bad.calls (a0.extract 0 (t204 : Int).toNat) t211 _ A49.out).mono ?_); rintro e w55 ⟨rfl, hb⟩; have n0_ := Aside0.mk (below_step (by repeat (first | (with_reducible first | exact HB.out | apply below_alloc | apply pw_below_drewN | apply below_drew1) | exact HB.out)) hb); clear HB; have HB := n0_; clear n0_; (try clear hb); (try clear hb2); (try clear hk); (try clear hi)) | (go_at_call 10; (with_reducible refine (vname_May.calls a0 t212 _ A52.out).mono ?_); rintro e w56 ⟨rfl, hb⟩; have n0_ := Aside0.mk (below_step (by repeat (first | (with_reducible first | exact HB.out | apply below_alloc | apply pw_below_drewN | apply below_drew1) | exact HB.out)) hb); clear HB; have HB := n0_; clear n0_; (try clear hb); (try clear hb2); (try clear hk); (try clear hi)))
                                  go_ret
                                  exact ⟨by first | rfl | (simp [errW_none, errW_some] <;> rfl) | (simp [*, errW_none, errW_some] <;> rfl), by repeat (first | (with_reducible first | exact HB.out | apply below_alloc | apply pw_below_drewN | apply below_drew1) | exact HB.out)⟩
                                · rw [if_neg c53] at H
                                  have c53b0 : (t205 == (a0.size : Int)) = false := beq_eq_false_iff_ne.mpr c53
                                  have c53b1 : (t205 != (a0.size : Int)) = true := bne_iff_ne.mpr c53
                                  obtain rfl := Option.some.inj H
                                  go_wp2_with (first | (go_at_call 10; (with_reducible refine (vname_May.calls (a0.extract 0 (t205 : Int).toNat) true _ A45.out).mono ?_); rintro e w57 ⟨rfl, hb⟩; have n0_ := Aside0.mk (below_step (by repeat (first | (with_reducible first | exact HB.out | apply below_alloc | apply pw_below_drewN | apply below_drew1) | exact HB.out)) hb); clear HB; have HB := n0_; clear n0_; (try clear hb); (try clear hb2); (try clear hk); (try clear hi)) | (go_at_call 13; (with_reducible refine (vname_Bad.calls (a0.extract 0 (t204 : Int).toNat) t211 _ A49.out).mono ?_); rintro e w58 ⟨rfl, hb⟩; have n0_ := Aside0.mk (below_step (by repeat (first | (with_reducible first | exact HB.out | apply below_alloc | apply pw_below_drewN | apply below_drew1) | exact HB.out)) hb); clear HB; have HB := n0_; clear n0_; (try clear hb); (try clear hb2); (try clear hk); (try clear hi)) | (go_at_call 10; (with_reducible refine (vname_May.calls a0 t212 _ A52.out).mono ?_); rintro e w59 ⟨rfl, hb⟩; have n0_ := Aside0.mk (below_step (by repeat (first | (with_reducible first | exact HB.out | apply below_alloc | apply pw_below_drewN | apply below_drew1) | exact HB.out)) hb); clear HB; have HB := n0_; clear n0_; (try clear hb); (try clear hb2); (try clear hk); (try clear hi)))
                                  go_ret
                                  exact ⟨by first | rfl | (simp [errW_none, errW_some] <;> rfl) | (simp [*, errW_none, errW_some] <;> rfl), by repeat (first | (with_reducible first | exact HB.out | apply below_alloc | apply pw_below_drewN | apply below_drew1) | exact HB.out)⟩
                              · rw [if_neg c51] at H
                                have c51b0 : (t204 == (a0.size : Int)) = false := beq_eq_false_iff_ne.mpr c51
                                have c51b1 : (t204 != (a0.size : Int)) = true := bne_iff_ne.mpr c51
                                by_cases c60 : a0.size + a1.size ≤ 9223372036854775807
                                · rw [if_pos c60] at H
                                  have c60b0 := eq_true c60
                                  have c60b1 : decide (a0.size + a1.size ≤ 9223372036854775807) = true := decide_eq_true c60
                                  try have c60b2 : (9223372036854775807 < a0.size + a1.size) = False := eq_false (Nat.not_lt.2 c60)
                                  replace H := Option.bind_eq_some_iff.mp H
                                  obtain ⟨t213, A610, H⟩ := H
                                  replace H : (if t213 = t204 then ((vname_May.f a0).bind fun t214 => (if t205 = (a0.size : Int) then (some (t214 == (decide (t205 > 0)))) else (some (t214 == false)))) else (some false)) = some r := H
                                  have A61 := Aside0.mk A610
                                  clear A610
                                  by_cases c62 : t213 = t204
                                  · rw [if_pos c62] at H
                                    have c62b0 : (t213 == t204) = true := beq_iff_eq.mpr c62
                                    have c62b1 : (t213 != t204) = false := bne_eq_false_iff_eq.mpr c62
                                    clear c62
                                    replace H := Option.bind_eq_some_iff.mp H
                                    obtain ⟨t214, A630, H⟩ := H
                                    replace H : (if t205 = (a0.size : Int) then (some (t214 == (decide (t205 > 0)))) else (some (t214 == false))) = some r := H
                                    have A63 := Aside0.mk A630
                                    clear A630
                                    by_cases c64 : t205 = (a0.size : Int)
                                    · rw [if_pos c64] at H
                                      have c64b0 : (t205 == (a0.size : Int)) = true := beq_iff_eq.mpr c64
                                      have c64b1 : (t205 != (a0.size : Int)) = false := bne_eq_false_iff_eq.mpr c64
                                      clear c64
                                      obtain rfl := Option.some.inj H
                                      go_wp2_with (first | (go_at_call 10; (with_reducible refine (vname_May.calls (a0.extract 0 (t205 : Int).toNat) true _ A45.out).mono ?_); rintro e w65 ⟨rfl, hb⟩; have n0_ := Aside0.mk (below_step (by repeat (first | (with_reducible first | exact HB.out | apply below_alloc | apply pw_below_drewN | apply below_drew1) | exact HB.out)) hb); clear HB; have HB := n0_; clear n0_; (try clear hb); (try clear hb2); (try clear hk); (try clear hi)) | (go_at_call 13; (with_reducible refine (vname_Bad.calls (a0.extract 0 (t204 : Int).toNat) t211 _ A49.out).mono ?_); rintro e w66 ⟨rfl, hb⟩; have n0_ := Aside0.mk (below_step (by repeat (first | (with_reducible first | exact HB.out | apply below_alloc | apply pw_below_drewN | apply below_drew1) | exact HB.out)) hb); clear HB; have HB := n0_; clear n0_; (try clear hb); (try clear hb2); (try clear hk); (try clear hi)) | (go_at_call 13; (with_reducible refine (vname_Bad.calls (a0 ++ a1) t213 _ A61.out).mono ?_); rintro e w67 ⟨rfl, hb⟩; have n0_ := Aside0.mk (below_step (by repeat (first | (with_reducible first | exact HB.out | apply below_alloc | apply pw_below_drewN | apply below_drew1) | exact HB.out)) hb); clear HB; have HB := n0_; clear n0_; (try clear hb); (try clear hb2); (try clear hk); (try clear hi)) | (go_at_call 10; (with_reducible refine (vname_May.calls a0 t214 _ A63.out).mono ?_); rintro e w68 ⟨rfl, hb⟩; have n0_ := Aside0.mk (below_step (by repeat (first | (with_reducible first | exact HB.out | apply below_alloc | apply pw_below_drewN | apply below_drew1) | exact HB.out)) hb); clear HB; have HB := n0_; clear n0_; (try clear hb); (try clear hb2); (try clear hk); (try clear hi)))
                                      go_ret
                                      exact ⟨by first | rfl | (simp [errW_none, errW_some] <;> rfl) | (simp [*, errW_none, errW_some] <;> rfl), by repeat (first | (with_reducible first | exact HB.out | apply below_alloc | apply pw_below_drewN | apply below_drew1) | exact HB.out)⟩
                                    · rw [if_neg c64] at H
                                      have c64b0 : (t205 == (a0.size : Int)) = false := beq_eq_false_iff_ne.mpr c64
                                      have c64b1 : (t205 != (a0.size : Int)) = true := bne_iff_ne.mpr c64
                                      obtain rfl := Option.some.inj H
                                      go_wp2_with (first | (go_at_call 10; (with_reducible refine (vname_May.calls (a0.extract 0 (t205 : Int).toNat) true _ A45.out).mono ?_); rintro e w69 ⟨rfl, hb⟩; have n0_ := Aside0.mk (below_step (by repeat (first | (with_reducible first | exact HB.out | apply below_alloc | apply pw_below_drewN | apply below_drew1) | exact HB.out)) hb); clear HB; have HB := n0_; clear n0_; (try clear hb); (try clear hb2); (try clear hk); (try clear hi)) | (go_at_call 13; (with_reducible refine (vname_Bad.calls (a0.extract 0 (t204 : Int).toNat) t211 _ A49.out).mono ?_); rintro e w70 ⟨rfl, hb⟩; have n0_ := Aside0.mk (below_step (by repeat (first | (with_reducible first | exact HB.out | apply below_alloc | apply pw_below_drewN | apply below_drew1) | exact HB.out)) hb); clear HB; have HB := n0_; clear n0_; (try clear hb); (try clear hb2); (try clear hk); (try clear hi)) | (go_at_call 13; (with_reducible refine (vname_Bad.calls (a0 ++ a1) t213 _ A61.out).mono ?_); rintro e w71 ⟨rfl, hb⟩; have n0_ := Aside0.mk (below_step (by repeat (first | (with_reducible first | exact HB.out | apply below_alloc | apply pw_below_drewN | apply below_drew1) | exact HB.out)) hb); clear HB; have HB := n0_; clear n0_; (try clear hb); (try clear hb2); (try clear hk); (try clear hi)) | (go_at_call 10; (with_reducible refine (vname_May.calls a0 t214 _ A63.out).mono ?_); rintro e w72 ⟨rfl, hb⟩; have n0_ := Aside0.mk (below_step (by repeat (first | (with_reducible first | exact HB.out | apply below_alloc | apply pw_below_drewN | apply below_drew1) | exact HB.out)) hb); clear HB; have HB := n0_; clear n0_; (try clear hb); (try clear hb2); (try clear hk); (try clear hi)))
                                      go_ret
                                      exact ⟨by first | rfl | (simp [errW_none, errW_some] <;> rfl) | (simp [*, errW_none, errW_some] <;> rfl), by repeat (first | (with_reducible first | exact HB.out | apply below_alloc | apply pw_below_drewN | apply below_drew1) | exact HB.out)⟩
                                  · rw [if_neg c62] at H
                                    have c62b0 : (t213 == t204) = false := beq_eq_false_iff_ne.mpr c62
                                    have c62b1 : (t213 != t204) = true := bne_iff_ne.mpr c62
                                    obtain rfl := Option.some.inj H
                                    go_wp2_with (first | (go_at_call 10; (with_reducible refine (vname_May.calls (a0.extract 0 (t205 : Int).toNat) true _ A45.out).mono ?_); rintro e w73 ⟨rfl, hb⟩; have n0_ := Aside0.mk (below_step (by repeat (first | (with_reducible first | exact HB.out | apply below_alloc | apply pw_below_drewN | apply below_drew1) | exact HB.out)) hb); clear HB; have HB := n0_; clear n0_; (try clear hb); (try clear hb2); (try clear hk); (try clear hi)) | (go_at_call 13; (with_reducible refine (vname_Bad.calls (a0.extract 0 (t204 : Int).toNat) t211 _ A49.out).mono ?_); rintro e w74 ⟨rfl, hb⟩; have n0_ := Aside0.mk (below_step (by repeat (first | (with_reducible first | exact HB.out | apply below_alloc | apply pw_below_drewN | apply below_drew1) | exact HB.out)) hb); clear HB; have HB := n0_; clear n0_; (try clear hb); (try clear hb2); (try clear hk); (try clear hi)) | (go_at_call 13; (with_reducible refine (vname_Bad.calls (a0 ++ a1) t213 _ A61.out).mono ?_); rintro e w75 ⟨rfl, hb⟩; have n0_ := Aside0.mk (below_step (by repeat (first | (with_reducible first | exact HB.out | apply below_alloc | apply pw_below_drewN | apply below_drew1) | exact HB.out)) hb); clear HB; have HB := n0_; clear n0_; (try clear hb); (try clear hb2); (try clear hk); (try clear hi)))
                                    go_ret
                                    exact ⟨by first | rfl | (simp [errW_none, errW_some] <;> rfl) | (simp [*, errW_none, errW_some] <;> rfl), by repeat (first | (with_reducible first | exact HB.out | apply below_alloc | apply pw_below_drewN | apply below_drew1) | exact HB.out)⟩
                                · rw [if_neg c60] at H
                                  exact absurd H (by simp)
                            · rw [if_neg c50] at H
                              have c50b0 : (t211 == t204) = false := beq_eq_false_iff_ne.mpr c50
                              have c50b1 : (t211 != t204) = true := bne_iff_ne.mpr c50
                              obtain rfl := Option.some.inj H
                              go_wp2_with (first | (go_at_call 10; (with_reducible refine (vname_May.calls (a0.extract 0 (t205 : Int).toNat) true _ A45.out).mono ?_); rintro e w76 ⟨rfl, hb⟩; have n0_ := Aside0.mk (below_step (by repeat (first | (with_reducible first | exact HB.out | apply below_alloc | apply pw_below_drewN | apply below_drew1) | exact HB.out)) hb); clear HB; have HB := n0_; clear n0_; (try clear hb); (try clear hb2); (try clear hk); (try clear hi)) | (go_at_call 13; (with_reducible refine (vname_Bad.calls (a0.extract 0 (t204 : Int).toNat) t211 _ A49.out).mono ?_); rintro e w77 ⟨rfl, hb⟩; have n0_ := Aside0.mk (below_step (by repeat (first | (with_reducible first | exact HB.out | apply below_alloc | apply pw_below_drewN | apply below_drew1) | exact HB.out)) hb); clear HB; have HB := n0_; clear n0_; (try clear hb); (try clear hb2); (try clear hk); (try clear hi)))
                              go_ret
                              exact ⟨by first | rfl | (simp [errW_none, errW_some] <;> rfl) | (simp [*, errW_none, errW_some] <;> rfl), by repeat (first | (with_reducible first | exact HB.out | apply below_alloc | apply pw_below_drewN | apply below_drew1) | exact HB.out)⟩
                          · rw [if_neg c48] at H
                            exact absurd H (by simp)
                        · rw [if_neg c47] at H
                          exact absurd H (by simp)
                      · replace c46 := Bool.eq_false_iff.mpr c46
                        subst c46
                        have H1 : (some false) = some r := by rw [if_neg (show ¬ (false = true) by decide)] at H; exact H
                        clear H
                        have H := H1
                        clear H1
                        obtain rfl := Option.some.inj H
                        go_wp2_with (first | (go_at_call 10; (with_reducible refine (vname_May.calls (a0.extract 0 (t205 : Int).toNat) false _ A45.out).mono ?_); rintro e w78 ⟨rfl, hb⟩; have n0_ := Aside0.mk (below_step (by repeat (first | (with_reducible first | exact HB.out | apply below_alloc | apply pw_below_drewN | apply below_drew1) | exact HB.out)) hb); clear HB; have HB := n0_; clear n0_; (try clear hb); (try clear hb2); (try clear hk); (try clear hi)))
                        go_ret
                        exact ⟨by first | rfl | (simp [errW_none, errW_some] <;> rfl) | (simp [*, errW_none, errW_some] <;> rfl), by repeat (first | (with_reducible first | exact HB.out | apply below_alloc | apply pw_below_drewN | apply below_drew1) | exact HB.out)⟩
                    · rw [if_neg c44] at H
                      exact absurd H (by simp)
                  · rw [if_neg c43] at H
                    exact absurd H (by simp)
              · replace c16 := Bool.eq_false_iff.mpr c16
                subst c16
                have H1 : (some false) = some r := by rw [if_neg (show ¬ (false = true) by decide)] at H; exact H
                clear H
                have H := H1
                clear H1
                obtain rfl := Option.some.inj H
                go_wp2
                go_ret
                exact ⟨by first | rfl | (simp [errW_none, errW_some] <;> rfl) | (simp [*, errW_none, errW_some] <;> rfl), by repeat (first | (with_reducible first | exact HB.out | apply below_alloc | apply pw_below_drewN | apply below_drew1) | exact HB.out)⟩

/-- THE ONE PURE STATEMENT of phalaropelaw05_VnameBegins: yours. -/
def phalaropelaw05_VnameBegins.Pure : Prop := ∀ (a0 : ByteArray) (a1 : ByteArray), a0.size ≤ 140737488351232 → a1.size ≤ 140737488351232 → ∃ k, phalaropelaw05_VnameBegins.f k a0 a1 = some true
theorem phalaropelaw05_VnameBegins.walk (P : phalaropelaw05_VnameBegins.Pure) (a0 : ByteArray) (a1 : ByteArray) (w : World) (w0 : a0.size ≤ 140737488351232) (w1 : a1.size ≤ 140737488351232) :
    Calls Tryd.prog 8 #[.string a0, .string a1] w fun e w' => e = .returned (.bool true) ∧ Below w.heap.size w w' := by
  obtain ⟨k, h⟩ := P a0 a1 w0 w1
  refine (phalaropelaw05_VnameBegins.calls k a0 a1 true w h).mono ?_
  rintro e w' ⟨rfl, hd⟩
  exact ⟨rfl, hd⟩

end Go.Proofs.YtmondgamackcgaaDoor.PVn
