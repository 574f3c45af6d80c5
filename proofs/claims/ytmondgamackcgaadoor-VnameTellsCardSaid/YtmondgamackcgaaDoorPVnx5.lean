-- PRINTED by print.py (a twelfth state) out of the translation. Not trusted: Lean checks it.
import Derived.Test.YtmondgamackcgaaDoorPVnx0
import Derived.Test.YtmondgamackcgaaDoorPVnx1
import Derived.Test.YtmondgamackcgaaDoorPVnx4
namespace Go.Proofs.YtmondgamackcgaaDoor.PVn
open Go.RowKit Go.Proofs.YtmondgamackcgaaDoorW.PrintWords Go.Proofs.YtmondgamackcgaaDoorW.PrintLast Go.Proofs.YtmondgamackcgaaDoorW.PrintMore
attribute [local go_sem] max2_int min2_int max_two min_two max_three min_three max_four min_four   -- for this text's walks alone
set_option linter.unusedVariables false
set_option linter.unusedSimpArgs false

/-! ### phalaroperef05_Split: function 19 -/
def phalaroperef05_Split.l0 : Nat → ByteArray → List ByteArray → Int → Option (List ByteArray)
  | 0, _, _, _ => none
  | k + 1, x0, x3, x4 => if x4 < (x0.size : Int) then (if 0 ≤ x4 then (if (bt x0 x4) = 46 then (if x3.length < 8796093022208 then (phalaroperef05_Split.l0 k x0 (x3 ++ [(⟨#[]⟩ : ByteArray)]) (wrap64 (x4 + 1))) else (none)) else (if 0 ≤ (wrap64 ((x3.length : Int) - 1)) then (if (wrap64 ((x3.length : Int) - 1)) < (x3.length : Int) then (if x4 ≤ (wrap64 (x4 + 1)) then (if (wrap64 (x4 + 1)) ≤ (x0.size : Int) then (if (rdOf ByteArray.empty x3 (wrap64 ((x3.length : Int) - 1))).size + (x0.extract (x4 : Int).toNat ((wrap64 (x4 + 1)) : Int).toNat).size ≤ 9223372036854775807 then (phalaroperef05_Split.l0 k x0 (x3.set ((wrap64 ((x3.length : Int) - 1)) : Int).toNat ((rdOf ByteArray.empty x3 (wrap64 ((x3.length : Int) - 1))) ++ (x0.extract (x4 : Int).toNat ((wrap64 (x4 + 1)) : Int).toNat))) (wrap64 (x4 + 1))) else (none)) else (none)) else (none)) else (none)) else (none))) else (none)) else (some x3)
def phalaroperef05_Split.f (k : Nat) (a0 : ByteArray) : Option (List ByteArray) := (phalaroperef05_May.f k a0).bind fun t158 => (if t158 = true then (phalaroperef05_Split.l0 k a0 (([(⟨#[]⟩ : ByteArray)] : List ByteArray)) 0) else (some ([] : List ByteArray)))
theorem phalaroperef05_Split.mono_l : ∀ k, (∀ y0 y1 y2, LeO (phalaroperef05_Split.l0 k y0 y1 y2) (phalaroperef05_Split.l0 (k + 1) y0 y1 y2))
  | 0 => fun _ _ _ r h => by simp [phalaroperef05_Split.l0] at h
  | k + 1 => by
    have ih0 := phalaroperef05_Split.mono_l k
    · intro y0 y1 y2
      unfold phalaroperef05_Split.l0
      repeat' first
      | (with_reducible exact ih0 _ _ _)
      | (with_reducible exact phalaroperef05_May.mono _ _)
      | (with_reducible exact LeO.refl _)
      | (with_reducible exact LeO.none _)
      | (with_reducible refine LeO.ite ?_ ?_)
      | (with_reducible refine LeO.bind ?_ (fun _ => ?_))
      | exact ih0 _ _ _
      | exact phalaroperef05_May.mono _ _
      | exact LeO.none _
      | refine LeO.ite ?_ ?_
      | refine LeO.bind ?_ (fun _ => ?_)
theorem phalaroperef05_Split.mono : ∀ a0 k, LeO (phalaroperef05_Split.f k a0) (phalaroperef05_Split.f (k + 1) a0) := by
  intro a0 k
  have ih0 := phalaroperef05_Split.mono_l k
  unfold phalaroperef05_Split.f
  repeat' first
      | (with_reducible exact ih0 _ _ _)
      | (with_reducible exact phalaroperef05_May.mono _ _)
      | (with_reducible exact LeO.refl _)
      | (with_reducible exact LeO.none _)
      | (with_reducible refine LeO.ite ?_ ?_)
      | (with_reducible refine LeO.bind ?_ (fun _ => ?_))
      | exact ih0 _ _ _
      | exact phalaroperef05_May.mono _ _
      | exact LeO.none _
      | refine LeO.ite ?_ ?_
      | refine LeO.bind ?_ (fun _ => ?_)
def phalaroperef05_Split.T9 : Bool × List (List Nat × List Nat) := (true, [([], []), ([], []), ([1], [1]), ([2], [2]), ([], []), ([], []), ([5], [5]), ([6], [6]), ([4, 7], [4, 7]), ([8], [8]), ([], []), ([], []), ([], []), ([12], [12]), ([10, 11, 13], [10, 11, 13]), ([9, 14], [9, 14]), ([0, 3, 0, 1, 2, 3, 4, 5, 6, 7, 8, 9, 10, 11, 12, 13, 14, 15], [0, 3]), ([16, 15, 0, 1, 2, 3, 4, 5, 6, 7, 8, 9, 10, 11, 12, 13, 14, 15], [15, 16])])
def phalaroperef05_Split.B9 : List Nat := [0, 0, 2, 6, 0, 0, 32, 96, 240, 496, 0, 0, 0, 4096, 15360, 32752, 65535, 131071]
theorem phalaroperef05_Split.tab9 : rtab .any (opsOf Tryd.f19 9) = phalaroperef05_Split.T9 := by kernel_rfl
theorem phalaroperef05_Split.bits9 : waitsOk phalaroperef05_Split.T9.2 phalaroperef05_Split.B9 = true := by kernel_rfl
set_option maxHeartbeats 8000000 in
set_option maxRecDepth 100000 in
theorem phalaroperef05_Split.calls (k : Nat) (a0 : ByteArray) (r : List ByteArray) (w : World) (h : phalaroperef05_Split.f k a0 = some r) :
    Calls Tryd.prog 19 #[.string a0] w fun e w' => ∃ v0_ : Value, e = .returned (v0_) ∧ Kd.R Kd.string 9 w' w.heap.size (fun _ => True) v0_ r ∧ Below w.heap.size w w' := by
  have HB := Aside0.mk (Below.refl w.heap.size w)
  have H : ((phalaroperef05_May.f k a0).bind fun t158 => (if t158 = true then (phalaroperef05_Split.l0 k a0 (([(⟨#[]⟩ : ByteArray)] : List ByteArray)) 0) else (some ([] : List ByteArray)))) = some r := h
  clear h
  replace H := Option.bind_eq_some_iff.mp H
  obtain ⟨t158, A20, H⟩ := H
  replace H : (if t158 = true then (phalaroperef05_Split.l0 k a0 (([(⟨#[]⟩ : ByteArray)] : List ByteArray)) 0) else (some ([] : List ByteArray))) = some r := H
  have A2 := Aside0.mk A20
  clear A20
  by_cases c3 : t158 = true
  · subst c3
    have H1 : (phalaroperef05_Split.l0 k a0 (([(⟨#[]⟩ : ByteArray)] : List ByteArray)) 0) = some r := by rw [if_pos rfl] at H; exact H
    clear H
    have H := H1
    clear H1
    obtain ⟨y159, hy159⟩ : ∃ y_ : List ByteArray, y_ = (([(⟨#[]⟩ : ByteArray)] : List ByteArray)) := ⟨_, rfl⟩
    replace H : (phalaroperef05_Split.l0 k a0 y159 0) = some r := by first | (rw [hy159]; with_reducible exact H) | (have H2_ := (Option.bind_some _ _).symm.trans H; rw [hy159]; with_reducible exact H2_) | (have H2_ := (Option.bind_some _ _).symm.trans H; with_reducible exact H2_) | with_reducible exact H | (rw [hy159]; exact H) | exact H
    have Ny159 := Aside0.mk hy159
    clear hy159
    have H' := Aside0.mk H
    clear H
    go_enter Tryd.func19, Tryd.ntmps19
    go_wp2_with (first | ((with_reducible refine gate_callee (f := 15) rfl ?_); refine goesL_ (some 6) rfl rfl Tryd.func15 (by kernel_rfl) rfl #[.string a0] rfl (by (try simp only [List.map_toArray, List.map_cons, List.map_nil]); first | done | rfl | (simp only [List.length_drop, List.length_take]; rfl)) ?_; (with_reducible refine (phalaroperef05_May.calls k a0 true _ A2.out).mono ?_); rintro e w' ⟨rfl, ⟨nd, rfl⟩⟩; refine ⟨_, rfl, ?_⟩) | ((with_reducible refine gate_dst (N := 8) rfl ?_); refine Kd.R_lit Kd.string _ 9 ?hg (N := 8) ?hd (xs := ([(⟨#[]⟩ : ByteArray)] : List ByteArray)) (inner := [.string (⟨#[]⟩ : ByteArray)]) (ok := fun _ => True) (okp := fun _ => True) ?hr ?hp (fun _ hk => hk) trivial (Below.refl _ _) (Nat.le_refl _) (by simp) ?_; (case hd => rfl); (case hg => rfl); (case hr => first | (go_simp; done) | (go_simp; rfl)); (case hp => exact (Reps.one (show Kd.M Kd.string _ _ _ (⟨#[]⟩ : ByteArray) [.string (⟨#[]⟩ : ByteArray)] from rfl) (Reps.none _ _))); intro v160 w4 ho5 hb hg_ hnew_; clear hg_ hnew_; (first | rw [← Ny159.out] at ho5 | (simp only [Int.reduceToNat] at ho5; rw [← Ny159.out] at ho5)); have n0_ := Aside0.mk (Kd.R_lower ho5 (below_size (by repeat (first | (with_reducible first | exact HB.out | apply below_alloc | apply pw_below_drewN | apply below_drew1) | exact HB.out)))); have n1_ := Aside0.mk (below_step (by repeat (first | (with_reducible first | exact HB.out | apply below_alloc | apply pw_below_drewN | apply below_drew1) | exact HB.out)) hb); clear HB; have HO161 := n0_; have HB := n1_; clear n0_ n1_; clear hb ho5))
    go_loopg [3, 4] k (fun kq v3 v4 w' => ∃ (x3_1 : List ByteArray) (x4_1 : Int), v4 = .int .i64 x4_1 ∧ Aside0 (phalaroperef05_Split.l0 kq a0 x3_1 x4_1 = some r) ∧ Aside0 (kq ≤ k) ∧ Aside0 (Kd.R Kd.string 9 w' w.heap.size (fun _ => True) v3 x3_1) ∧ Aside0 (Below w.heap.size w w'))
    case atStart => exact ⟨(y159), (0), (by first | rfl | (simp; done) | (simp [*]; done)), H', ⟨Nat.le_refl _⟩, ⟨by (with_reducible repeat (first | apply Kd.R_alloc | apply Kd.R_drewN | apply Kd.R_drew)); exact HO161.out⟩, ⟨by repeat (first | (with_reducible first | exact HB.out | apply below_alloc | apply pw_below_drewN | apply below_drew1) | exact HB.out)⟩⟩
    case round =>
      clear H'
      try clear c1
      try clear p2
      try clear c3
      obtain ⟨x3_1, x4_1, rfl, HA, HK1, HO_3, HB⟩ := hrel
      cases gk with
      | zero => exact absurd HA.out (by simp [phalaroperef05_Split.l0])
      | succ k1 =>
        have H := HA.out
        clear HA
        simp only [phalaroperef05_Split.l0] at H
        by_cases c6 : x4_1 < (a0.size : Int)
        · rw [if_pos c6] at H
          have c6b0 : decide (x4_1 < (a0.size : Int)) = true := decide_eq_true c6
          clear c6
          by_cases c7 : 0 ≤ x4_1
          · rw [if_pos c7] at H
            have c7b0 : decide (0 ≤ x4_1) = true := decide_eq_true c7
            clear c7
            by_cases c9 : (bt a0 x4_1) = 46
            · rw [if_pos c9] at H
              have c9b0 : ((bt a0 x4_1) == 46) = true := beq_iff_eq.mpr c9
              have c9b1 : ((bt a0 x4_1) != 46) = false := bne_eq_false_iff_eq.mpr c9
              clear c9
              by_cases c10 : x3_1.length < 8796093022208
              · rw [if_pos c10] at H
                have LMc10 := Aside0.mk c10
                clear c10
                obtain ⟨y162, hy162⟩ : ∃ y_ : List ByteArray, y_ = (x3_1 ++ [(⟨#[]⟩ : ByteArray)]) := ⟨_, rfl⟩
                replace H : (phalaroperef05_Split.l0 k1 a0 y162 (wrap64 (x4_1 + 1))) = some r := by first | (rw [hy162]; with_reducible exact H) | (have H2_ := (Option.bind_some _ _).symm.trans H; rw [hy162]; with_reducible exact H2_) | (have H2_ := (Option.bind_some _ _).symm.trans H; with_reducible exact H2_) | with_reducible exact H | (rw [hy162]; exact H) | exact H
                have Ny162 := Aside0.mk hy162
                clear hy162
                have H' := Aside0.mk H
                clear H
                have p8 : 0 ≤ (x4_1 : Int) := of_decide_eq_true (by first | (with_reducible assumption) | assumption)
                have q8 : x4_1 < (a0.size : Int) := of_decide_eq_true (by first | (with_reducible assumption) | assumption)
                have hx8 := bt_at a0 x4_1
                replace p8 := eq_true p8
                replace q8 := eq_true q8
                go_wp2_with (first | ((with_reducible refine gate_builtin (b := .append) (xs := #[.tmp 19, .tmp 20]) rfl ?_); at_builtin; refine Kd.R_append Kd.string (w0 := w) w.heap.size rfl (.tmp 19) (.tmp 20) 28 9 (.string ⟨#[]⟩) 16 rfl Tryd.underlying28 info9 rfl (by decide) (by omega) u3 x3_1 (⟨#[]⟩ : ByteArray) [.string (⟨#[]⟩ : ByteArray)] (fun _ => True) (fun _ => False) rfl rfl ?aP (fun _ hk => hk.elim) ?aF ?aO ?aB ?aS ?aL ?_; (case aP => exact rfl); (case aB => exact (by repeat (first | (with_reducible first | exact HB.out | apply below_alloc | apply pw_below_drewN | apply below_drew1) | exact HB.out))); (case aF => exact (fun _ _ => trivial)); (case aO => exact (by (with_reducible repeat (first | apply Kd.R_alloc | apply Kd.R_drewN | apply Kd.R_drew)); exact HO_3.out)); (case aS => exact (below_size (by repeat (first | (with_reducible first | exact HB.out | apply below_alloc | apply pw_below_drewN | apply below_drew1) | exact HB.out)))); (case aL => have := LMc10.out; omega); intro v163 w11 ho hb hg hat; rw [← Ny162.out] at ho; have n0_ := Aside0.mk (hb); have n1_ := Aside0.mk (ho); clear HB; clear HO_3; have HB := n0_; have HO164 := n1_; clear n0_ n1_; clear ho hb hg hat))
                go_roundg k1
                case measure => have := HK1.out; omega
                case rel => exact ⟨(y162), (wrap64 (x4_1 + 1)), (by first | rfl | (simp; done) | (simp [*]; done)), H', ⟨by have := HK1.out; omega⟩, ⟨by (with_reducible repeat (first | apply Kd.R_alloc | apply Kd.R_drewN | apply Kd.R_drew)); exact HO164.out⟩, ⟨by repeat (first | (with_reducible first | exact HB.out | apply below_alloc | apply pw_below_drewN | apply below_drew1) | exact HB.out)⟩⟩
              · rw [if_neg c10] at H
                exact absurd H (by simp)
            · rw [if_neg c9] at H
              have c9b0 : ((bt a0 x4_1) == 46) = false := beq_eq_false_iff_ne.mpr c9
              have c9b1 : ((bt a0 x4_1) != 46) = true := bne_iff_ne.mpr c9
              obtain ⟨ji12, hji12⟩ : ∃ j_ : Int, (wrap64 ((x3_1.length : Int) - 1)) = j_ := ⟨_, rfl⟩
              replace H : (if 0 ≤ (ji12) then (if (ji12) < (x3_1.length : Int) then (if x4_1 ≤ (wrap64 (x4_1 + 1)) then (if (wrap64 (x4_1 + 1)) ≤ (a0.size : Int) then (if (rdOf ByteArray.empty x3_1 (ji12)).size + (a0.extract (x4_1 : Int).toNat ((wrap64 (x4_1 + 1)) : Int).toNat).size ≤ 9223372036854775807 then (phalaroperef05_Split.l0 k1 a0 (x3_1.set ((ji12) : Int).toNat ((rdOf ByteArray.empty x3_1 (ji12)) ++ (a0.extract (x4_1 : Int).toNat ((wrap64 (x4_1 + 1)) : Int).toNat))) (wrap64 (x4_1 + 1))) else (none)) else (none)) else (none)) else (none)) else (none)) = some r := by first | (rw [hji12] at H; exact H) | (simp only [hji12] at H ⊢; exact H)
              have hji12w : (IntKind.i64.wrap ((x3_1.length : Int) - 1)) = ji12 := (i64_w _).trans hji12
              by_cases c13 : 0 ≤ (ji12)
              · rw [if_pos c13] at H
                have c13b0 : decide (0 ≤ (ji12)) = true := decide_eq_true c13
                clear c13
                by_cases c14 : (ji12) < (x3_1.length : Int)
                · rw [if_pos c14] at H
                  have c14b0 : decide ((ji12) < (x3_1.length : Int)) = true := decide_eq_true c14
                  clear c14
                  have c15b0 := eq_true (of_decide_eq_true (by first | (with_reducible assumption) | assumption) : 0 ≤ x4_1)
                  by_cases c16 : x4_1 ≤ (wrap64 (x4_1 + 1))
                  · rw [if_pos c16] at H
                    have c16b0 := eq_true c16
                    have c16b1 : decide (x4_1 ≤ (wrap64 (x4_1 + 1))) = true := decide_eq_true c16
                    by_cases c17 : (wrap64 (x4_1 + 1)) ≤ (a0.size : Int)
                    · rw [if_pos c17] at H
                      have c17b0 := eq_true c17
                      have c17b1 : decide ((wrap64 (x4_1 + 1)) ≤ (a0.size : Int)) = true := decide_eq_true c17
                      by_cases c18 : (rdOf ByteArray.empty x3_1 (ji12)).size + (a0.extract (x4_1 : Int).toNat ((wrap64 (x4_1 + 1)) : Int).toNat).size ≤ 9223372036854775807
                      · rw [if_pos c18] at H
                        have c18b0 := eq_true c18
                        have c18b1 : decide ((rdOf ByteArray.empty x3_1 (ji12)).size + (a0.extract (x4_1 : Int).toNat ((wrap64 (x4_1 + 1)) : Int).toNat).size ≤ 9223372036854775807) = true := decide_eq_true c18
                        try have c18b2 : (9223372036854775807 < (rdOf ByteArray.empty x3_1 (ji12)).size + (a0.extract (x4_1 : Int).toNat ((wrap64 (x4_1 + 1)) : Int).toNat).size) = False := eq_false (Nat.not_lt.2 c18)
                        obtain ⟨y166, hy166⟩ : ∃ y_ : List ByteArray, y_ = (x3_1.set ((ji12) : Int).toNat ((rdOf ByteArray.empty x3_1 (ji12)) ++ (a0.extract (x4_1 : Int).toNat ((wrap64 (x4_1 + 1)) : Int).toNat))) := ⟨_, rfl⟩
                        replace H : (phalaroperef05_Split.l0 k1 a0 y166 (wrap64 (x4_1 + 1))) = some r := by first | (rw [hy166]; with_reducible exact H) | (have H2_ := (Option.bind_some _ _).symm.trans H; rw [hy166]; with_reducible exact H2_) | (have H2_ := (Option.bind_some _ _).symm.trans H; with_reducible exact H2_) | with_reducible exact H | (rw [hy166]; exact H) | exact H
                        have Ny166 := Aside0.mk hy166
                        clear hy166
                        have H' := Aside0.mk H
                        clear H
                        have p8 : 0 ≤ (x4_1 : Int) := of_decide_eq_true (by first | (with_reducible assumption) | assumption)
                        have q8 : x4_1 < (a0.size : Int) := of_decide_eq_true (by first | (with_reducible assumption) | assumption)
                        have hx8 := bt_at a0 x4_1
                        replace p8 := eq_true p8
                        replace q8 := eq_true q8
                        try go_wp2
                        have n0_ := Aside0.mk (Kd.R_drew HO_3.out)
                        have n1_ := Aside0.mk (below_drew1 HB.out)
                        clear HO_3
                        clear HB
                        have HO_3 := n0_
                        have HB := n1_
                        clear n0_ n1_
                        obtain ⟨Ao21, co21, eo21⟩ := Kd.R_slice HO_3.out
                        (first | subst eo21 | (injection eo21 with f1_ f2_ f3_; have f4_ := f1_.symm; have f5_ := f3_.symm; clear f1_ f2_ f3_; subst f4_; subst f5_))
                        have p165 : 0 ≤ ((ji12) : Int) := of_decide_eq_true (by first | (with_reducible assumption) | assumption)
                        have q165 : (ji12) < (x3_1.length : Int) := of_decide_eq_true (by first | (with_reducible assumption) | assumption)
                        obtain ⟨ad165, e165, hx165_0⟩ := Kd.at_string (Kd.R_reads' HO_3.out).2.2 (ji12) p165 q165
                        cases e165
                        replace p165 := eq_true p165
                        replace q165 := eq_true q165
                        have p19 : 0 ≤ ((ji12) : Int) := of_decide_eq_true (by first | (with_reducible assumption) | assumption)
                        have q19 : ((ji12) : Int) < ((x3_1.length : Int) : Int) := of_decide_eq_true (by first | (with_reducible assumption) | assumption)
                        obtain ⟨go19, co19, eo19, gb19, gl19, cl19, HG19⟩ := Kd.R_form HO_3.out (by omega)
                        (first | cases eo19 | (injection eo19 with ea_ en_ ec_; (first | subst ea_ | (injection ea_ with ea_; subst ea_)); subst ec_; clear en_))
                        have GB19 := Aside0.mk gb19
                        have GG19 := Aside0.mk HG19
                        clear gb19 gl19 HG19
                        (first | simp only [add_plain] at hx165_0 | skip)
                        obtain ⟨hx19_0, hf19_0⟩ := Kd.R_celln (⟨#[]⟩ : ByteArray) HO_3.out ((ji12) : Int) p19 q19
                        replace p19 := eq_true p19
                        replace q19 := eq_true q19
                        have HP22 := Kd.R_putn HO_3.out ((ji12) : Int) ((rdOf ByteArray.empty x3_1 (ji12)) ++ (a0.extract (x4_1 : Int).toNat ((wrap64 (x4_1 + 1)) : Int).toNat))
                        rw [← Ny166.out] at HP22
                        have HQ22 := Aside0.mk HP22
                        clear HP22
                        refine start_ (n := 18) (S := fun w' => w'.cell? ⟨go19, ((ji12)).toNat, none⟩ = some (.string (rdOf ByteArray.empty x3_1 (ji12)))) (ds := [17]) #[false, false, false, false, false, false, false, false, false, false, false, false, false, false, false, false, false, false] (by kernel_rfl) rfl rfl (hx165_0) (fun hHeld => ?_); refine with_tabW phalaroperef05_Split.tab9 phalaroperef05_Split.bits9 (fun HT_ HW_ => ?_)
                        generalize wr.drew = w20 at HO_3 HB GG19 HQ22 hf19_0 hx165_0 hx19_0 hHeld ⊢
                        refine pure_ (i := 0) (N := some 22) (v := ?_) (a' := ?_) #[true, false, false, false, false, false, false, false, false, false, false, false, false, false, false, false, false, false] rfl rfl (any_of HT_.out (by kernel_rfl)) (fun _ _ _ h => h) (Or.inl ⟨by rfl, ?_⟩) ?_ ?_
                        rotate_left
                        · intro w'
                          go_simp
                          first | with_reducible rfl | (rw [if_neg (by have hq_ : (⟨#[123, 125, 44, 58, 42, 43, 35, 47, 59, 63, 38, 32]⟩ : ByteArray).size = 12 := rfl; simp only [ByteArray.size_append, ByteArray.size_extract, decide_eq_true_eq, Nat.min_self] at *; omega)] <;> try with_reducible rfl)
                        rotate_left
                        · simp only [Act.put, List.setIfInBounds_toArray, List.set_cons_zero, List.set_cons_succ, i64_w, i32_w]
                          rfl
                        refine pure_ (i := 1) (N := some 23) (v := ?_) (a' := ?_) #[true, true, false, false, false, false, false, false, false, false, false, false, false, false, false, false, false, false] rfl rfl (any_of HT_.out (by kernel_rfl)) (fun _ _ _ h => h) (Or.inl ⟨by rfl, ?_⟩) ?_ ?_
                        rotate_left
                        · intro w'
                          go_simp
                          first | with_reducible rfl | (rw [if_neg (by have hq_ : (⟨#[123, 125, 44, 58, 42, 43, 35, 47, 59, 63, 38, 32]⟩ : ByteArray).size = 12 := rfl; simp only [ByteArray.size_append, ByteArray.size_extract, decide_eq_true_eq, Nat.min_self] at *; omega)] <;> try with_reducible rfl)
                        rotate_left
                        · simp only [Act.put, List.setIfInBounds_toArray, List.set_cons_zero, List.set_cons_succ, i64_w, i32_w]
                          rfl
                        refine pure_ (i := 2) (N := some 24) (v := ?_) (a' := ?_) #[true, true, true, false, false, false, false, false, false, false, false, false, false, false, false, false, false, false] rfl rfl (any_of HT_.out (by kernel_rfl)) (fun _ _ _ h => h) (Or.inl ⟨by rfl, ?_⟩) ?_ ?_
                        rotate_left
                        · intro w'
                          go_simp
                          first | with_reducible rfl | (rw [if_neg (by have hq_ : (⟨#[123, 125, 44, 58, 42, 43, 35, 47, 59, 63, 38, 32]⟩ : ByteArray).size = 12 := rfl; simp only [ByteArray.size_append, ByteArray.size_extract, decide_eq_true_eq, Nat.min_self] at *; omega)] <;> try with_reducible rfl)
                        rotate_left
                        · simp only [Act.put, List.setIfInBounds_toArray, List.set_cons_zero, List.set_cons_succ, i64_w, i32_w]
                          rfl
                        refine pure_ (i := 3) (N := some 25) (v := ?_) (a' := ?_) #[true, true, true, true, false, false, false, false, false, false, false, false, false, false, false, false, false, false] rfl rfl (any_of HT_.out (by kernel_rfl)) (fun _ _ _ h => h) (Or.inl ⟨by rfl, ?_⟩) ?_ ?_
                        rotate_left
                        · intro w'
                          go_simp
                          first | with_reducible rfl | (rw [if_neg (by have hq_ : (⟨#[123, 125, 44, 58, 42, 43, 35, 47, 59, 63, 38, 32]⟩ : ByteArray).size = 12 := rfl; simp only [ByteArray.size_append, ByteArray.size_extract, decide_eq_true_eq, Nat.min_self] at *; omega)] <;> try with_reducible rfl)
                        rotate_left
                        · simp only [Act.put, List.setIfInBounds_toArray, List.set_cons_zero, List.set_cons_succ, i64_w, i32_w]
                          rfl
                        refine pure_ (i := 4) (N := some 26) (v := ?_) (a' := ?_) #[true, true, true, true, true, false, false, false, false, false, false, false, false, false, false, false, false, false] rfl rfl (any_of HT_.out (by kernel_rfl)) (fun _ _ _ h => h) (Or.inl ⟨by rfl, ?_⟩) ?_ ?_
                        rotate_left
                        · intro w'
                          go_simp
                          first | with_reducible rfl | (rw [if_neg (by have hq_ : (⟨#[123, 125, 44, 58, 42, 43, 35, 47, 59, 63, 38, 32]⟩ : ByteArray).size = 12 := rfl; simp only [ByteArray.size_append, ByteArray.size_extract, decide_eq_true_eq, Nat.min_self] at *; omega)] <;> try with_reducible rfl)
                        rotate_left
                        · simp only [Act.put, List.setIfInBounds_toArray, List.set_cons_zero, List.set_cons_succ, i64_w, i32_w]
                          rfl
                        refine pure_ (i := 5) (N := some 27) (v := ?_) (a' := ?_) #[true, true, true, true, true, true, false, false, false, false, false, false, false, false, false, false, false, false] rfl rfl (any_of HT_.out (by kernel_rfl)) (fun _ _ _ h => h) (Or.inl ⟨by rfl, ?_⟩) ?_ ?_
                        rotate_left
                        · intro w'
                          go_simp
                          first | with_reducible rfl | (rw [if_neg (by have hq_ : (⟨#[123, 125, 44, 58, 42, 43, 35, 47, 59, 63, 38, 32]⟩ : ByteArray).size = 12 := rfl; simp only [ByteArray.size_append, ByteArray.size_extract, decide_eq_true_eq, Nat.min_self] at *; omega)] <;> try with_reducible rfl)
                        rotate_left
                        · simp only [Act.put, List.setIfInBounds_toArray, List.set_cons_zero, List.set_cons_succ, i64_w, i32_w]
                          rfl
                        refine pure_ (i := 6) (N := some 28) (v := ?_) (a' := ?_) #[true, true, true, true, true, true, true, false, false, false, false, false, false, false, false, false, false, false] rfl rfl (any_of HT_.out (by kernel_rfl)) (fun _ _ _ h => h) (Or.inl ⟨by rfl, ?_⟩) ?_ ?_
                        rotate_left
                        · intro w'
                          go_simp
                          first | with_reducible rfl | (rw [if_neg (by have hq_ : (⟨#[123, 125, 44, 58, 42, 43, 35, 47, 59, 63, 38, 32]⟩ : ByteArray).size = 12 := rfl; simp only [ByteArray.size_append, ByteArray.size_extract, decide_eq_true_eq, Nat.min_self] at *; omega)] <;> try with_reducible rfl)
                        rotate_left
                        · simp only [Act.put, List.setIfInBounds_toArray, List.set_cons_zero, List.set_cons_succ, i64_w, i32_w]
                          rfl
                        refine pure_ (i := 7) (N := some 29) (v := ?_) (a' := ?_) #[true, true, true, true, true, true, true, true, false, false, false, false, false, false, false, false, false, false] rfl rfl (any_of HT_.out (by kernel_rfl)) (fun _ _ _ h => h) (Or.inl ⟨by rfl, ?_⟩) ?_ ?_
                        rotate_left
                        · intro w'
                          go_simp
                          first | with_reducible rfl | (rw [if_neg (by have hq_ : (⟨#[123, 125, 44, 58, 42, 43, 35, 47, 59, 63, 38, 32]⟩ : ByteArray).size = 12 := rfl; simp only [ByteArray.size_append, ByteArray.size_extract, decide_eq_true_eq, Nat.min_self] at *; omega)] <;> try with_reducible rfl)
                        rotate_left
                        · simp only [Act.put, List.setIfInBounds_toArray, List.set_cons_zero, List.set_cons_succ, i64_w, i32_w]
                          rfl
                        refine pure_ (i := 8) (N := some 30) (v := ?_) (a' := ?_) #[true, true, true, true, true, true, true, true, true, false, false, false, false, false, false, false, false, false] rfl rfl (any_of HT_.out (by kernel_rfl)) (fun _ _ _ h => h) (Or.inl ⟨by rfl, ?_⟩) ?_ ?_
                        rotate_left
                        · intro w'
                          go_simp
                          first | with_reducible rfl | (rw [if_neg (by have hq_ : (⟨#[123, 125, 44, 58, 42, 43, 35, 47, 59, 63, 38, 32]⟩ : ByteArray).size = 12 := rfl; simp only [ByteArray.size_append, ByteArray.size_extract, decide_eq_true_eq, Nat.min_self] at *; omega)] <;> try with_reducible rfl)
                        rotate_left
                        · simp only [Act.put, List.setIfInBounds_toArray, List.set_cons_zero, List.set_cons_succ, i64_w, i32_w]
                          rfl
                        refine pure_ (i := 10) (N := some 32) (v := ?_) (a' := ?_) #[true, true, true, true, true, true, true, true, true, false, true, false, false, false, false, false, false, false] rfl rfl (any_of HT_.out (by kernel_rfl)) (fun _ _ _ h => h) (Or.inl ⟨by rfl, ?_⟩) ?_ ?_
                        rotate_left
                        · intro w'
                          go_simp
                          first | with_reducible rfl | (rw [if_neg (by have hq_ : (⟨#[123, 125, 44, 58, 42, 43, 35, 47, 59, 63, 38, 32]⟩ : ByteArray).size = 12 := rfl; simp only [ByteArray.size_append, ByteArray.size_extract, decide_eq_true_eq, Nat.min_self] at *; omega)] <;> try with_reducible rfl)
                        rotate_left
                        · simp only [Act.put, List.setIfInBounds_toArray, List.set_cons_zero, List.set_cons_succ, i64_w, i32_w]
                          rfl
                        refine pure_ (i := 11) (N := some 33) (v := ?_) (a' := ?_) #[true, true, true, true, true, true, true, true, true, false, true, true, false, false, false, false, false, false] rfl rfl (any_of HT_.out (by kernel_rfl)) (fun _ _ _ h => h) (Or.inl ⟨by rfl, ?_⟩) ?_ ?_
                        rotate_left
                        · intro w'
                          go_simp
                          first | with_reducible rfl | (rw [if_neg (by have hq_ : (⟨#[123, 125, 44, 58, 42, 43, 35, 47, 59, 63, 38, 32]⟩ : ByteArray).size = 12 := rfl; simp only [ByteArray.size_append, ByteArray.size_extract, decide_eq_true_eq, Nat.min_self] at *; omega)] <;> try with_reducible rfl)
                        rotate_left
                        · simp only [Act.put, List.setIfInBounds_toArray, List.set_cons_zero, List.set_cons_succ, i64_w, i32_w]
                          rfl
                        refine pure_ (i := 12) (N := some 34) (v := ?_) (a' := ?_) #[true, true, true, true, true, true, true, true, true, false, true, true, true, false, false, false, false, false] rfl rfl (any_of HT_.out (by kernel_rfl)) (fun _ _ _ h => h) (Or.inl ⟨by rfl, ?_⟩) ?_ ?_
                        rotate_left
                        · intro w'
                          go_simp
                          first | with_reducible rfl | (rw [if_neg (by have hq_ : (⟨#[123, 125, 44, 58, 42, 43, 35, 47, 59, 63, 38, 32]⟩ : ByteArray).size = 12 := rfl; simp only [ByteArray.size_append, ByteArray.size_extract, decide_eq_true_eq, Nat.min_self] at *; omega)] <;> try with_reducible rfl)
                        rotate_left
                        · simp only [Act.put, List.setIfInBounds_toArray, List.set_cons_zero, List.set_cons_succ, i64_w, i32_w]
                          rfl
                        refine pure_ (i := 13) (N := some 35) (v := ?_) (a' := ?_) #[true, true, true, true, true, true, true, true, true, false, true, true, true, true, false, false, false, false] rfl rfl (any_of HT_.out (by kernel_rfl)) (fun _ _ _ h => h) (Or.inl ⟨by rfl, ?_⟩) ?_ ?_
                        rotate_left
                        · intro w'
                          go_simp
                          first | with_reducible rfl | (rw [if_neg (by have hq_ : (⟨#[123, 125, 44, 58, 42, 43, 35, 47, 59, 63, 38, 32]⟩ : ByteArray).size = 12 := rfl; simp only [ByteArray.size_append, ByteArray.size_extract, decide_eq_true_eq, Nat.min_self] at *; omega)] <;> try with_reducible rfl)
                        rotate_left
                        · simp only [Act.put, List.setIfInBounds_toArray, List.set_cons_zero, List.set_cons_succ, i64_w, i32_w]
                          rfl
                        refine pure_ (i := 14) (N := some 36) (v := ?_) (a' := ?_) #[true, true, true, true, true, true, true, true, true, false, true, true, true, true, true, false, false, false] rfl rfl (any_of HT_.out (by kernel_rfl)) (fun _ _ _ h => h) (Or.inl ⟨by rfl, ?_⟩) ?_ ?_
                        rotate_left
                        · intro w'
                          go_simp
                          first | with_reducible rfl | (rw [if_neg (by have hq_ : (⟨#[123, 125, 44, 58, 42, 43, 35, 47, 59, 63, 38, 32]⟩ : ByteArray).size = 12 := rfl; simp only [ByteArray.size_append, ByteArray.size_extract, decide_eq_true_eq, Nat.min_self] at *; omega)] <;> try with_reducible rfl)
                        rotate_left
                        · simp only [Act.put, List.setIfInBounds_toArray, List.set_cons_zero, List.set_cons_succ, i64_w, i32_w]
                          rfl
                        refine take_ (i := 9) (N := some 31) (v := ?_) (a' := ?_) #[true, true, true, true, true, true, true, true, true, true, true, true, true, true, true, false, false, false] rfl rfl (take_ofW HT_.out HW_.out (by kernel_rfl)) (fun _ _ _ h => h) (Or.inl ⟨by rfl, ?_⟩) hHeld ?_ ?_
                        rotate_left
                        · intro w' s0
                          go_simp
                          first | with_reducible rfl | (rw [if_neg (by have hq_ : (⟨#[123, 125, 44, 58, 42, 43, 35, 47, 59, 63, 38, 32]⟩ : ByteArray).size = 12 := rfl; simp only [ByteArray.size_append, ByteArray.size_extract, decide_eq_true_eq, Nat.min_self] at *; omega)] <;> try with_reducible rfl)
                        rotate_left
                        · simp only [Act.put, List.setIfInBounds_toArray, List.set_cons_zero, List.set_cons_succ, i64_w, i32_w]
                          rfl
                        refine pure_ (i := 15) (N := some 37) (v := ?_) (a' := ?_) #[true, true, true, true, true, true, true, true, true, true, true, true, true, true, true, true, false, false] rfl rfl (any_of HT_.out (by kernel_rfl)) (fun _ _ _ h => h) (Or.inl ⟨by rfl, ?_⟩) ?_ ?_
                        rotate_left
                        · intro w'
                          go_simp
                          first | with_reducible rfl | (rw [if_neg (by have hq_ : (⟨#[123, 125, 44, 58, 42, 43, 35, 47, 59, 63, 38, 32]⟩ : ByteArray).size = 12 := rfl; simp only [ByteArray.size_append, ByteArray.size_extract, decide_eq_true_eq, Nat.min_self] at *; omega)] <;> try with_reducible rfl)
                        rotate_left
                        · simp only [Act.put, List.setIfInBounds_toArray, List.set_cons_zero, List.set_cons_succ, i64_w, i32_w]
                          rfl
                        refine pure_ (i := 16) (N := some 38) (v := ?_) (a' := ?_) #[true, true, true, true, true, true, true, true, true, true, true, true, true, true, true, true, true, false] rfl rfl (any_of HT_.out (by kernel_rfl)) (fun _ _ _ h => h) (Or.inl ⟨by rfl, ?_⟩) ?_ ?_
                        rotate_left
                        · intro w'
                          go_simp
                          first | with_reducible rfl | (rw [if_neg (by have hq_ : (⟨#[123, 125, 44, 58, 42, 43, 35, 47, 59, 63, 38, 32]⟩ : ByteArray).size = 12 := rfl; simp only [ByteArray.size_append, ByteArray.size_extract, decide_eq_true_eq, Nat.min_self] at *; omega)] <;> try with_reducible rfl)
                        rotate_left
                        · simp only [Act.put, List.setIfInBounds_toArray, List.set_cons_zero, List.set_cons_succ, i64_w, i32_w]
                          rfl
                        refine last_ (i := 17) (N := none) #[true, true, true, true, true, true, true, true, true, true, true, true, true, true, true, true, true, true] rfl rfl (one_of HT_.out (by kernel_rfl)) (by decide) (fun K hK => ?_)
                        refine skip_ (w1 := ?_) (by rfl) rfl ?_ ?_
                        rotate_left
                        · go_simp
                          rfl
                        refine hK.out _ _ ?_
                        clear hK K
                        refine done_ (done_of HT_.out (by kernel_rfl)) ?_
                        try go_wp2
                        go_roundg k1
                        case measure => have := HK1.out; omega
                        case rel => exact ⟨(y166), (wrap64 (x4_1 + 1)), (by first | rfl | (simp; done) | (simp [*]; done)), H', ⟨by have := HK1.out; omega⟩, ⟨by (with_reducible repeat (first | apply Kd.R_alloc | apply Kd.R_drewN | apply Kd.R_drew)); exact HQ22.out⟩, ⟨by repeat (first | (with_reducible first | exact HB.out | apply below_alloc | apply pw_below_drewN | apply below_drew1 | refine below_set ?_ GB19.out) | exact HB.out)⟩⟩
                      · rw [if_neg c18] at H
                        exact absurd H (by simp)
                    · rw [if_neg c17] at H
                      exact absurd H (by simp)
                  · rw [if_neg c16] at H
                    exact absurd H (by simp)
                · rw [if_neg c14] at H
                  exact absurd H (by simp)
              · rw [if_neg c13] at H
                exact absurd H (by simp)
          · rw [if_neg c7] at H
            exact absurd H (by simp)
        · rw [if_neg c6] at H
          have c6b0 : decide (x4_1 < (a0.size : Int)) = false := decide_eq_false c6
          clear c6
          obtain rfl := Option.some.inj H
          go_wp2
          go_ret
          exact ⟨_, by first | rfl | (simp [errW_none, errW_some] <;> rfl) | (simp [*, errW_none, errW_some] <;> rfl), by (with_reducible repeat (first | apply Kd.R_alloc | apply Kd.R_drewN | apply Kd.R_drew)); exact HO_3.out, by repeat (first | (with_reducible first | exact HB.out | apply below_alloc | apply pw_below_drewN | apply below_drew1) | exact HB.out)⟩
  · replace c3 := Bool.eq_false_iff.mpr c3
    subst c3
    have H1 : (some ([] : List ByteArray)) = some r := by rw [if_neg (show ¬ (false = true) by decide)] at H; exact H
    clear H
    have H := H1
    clear H1
    obtain rfl := Option.some.inj H
    go_enter Tryd.func19, Tryd.ntmps19
    go_wp2_with (first | ((with_reducible refine gate_callee (f := 15) rfl ?_); refine goesL_ (some 6) rfl rfl Tryd.func15 (by kernel_rfl) rfl #[.string a0] rfl (by (try simp only [List.map_toArray, List.map_cons, List.map_nil]); first | done | rfl | (simp only [List.length_drop, List.length_take]; rfl)) ?_; (with_reducible refine (phalaroperef05_May.calls k a0 false _ A2.out).mono ?_); rintro e w' ⟨rfl, ⟨nd, rfl⟩⟩; refine ⟨_, rfl, ?_⟩))
    go_ret
    exact ⟨_, by first | rfl | (simp [errW_none, errW_some] <;> rfl) | (simp [*, errW_none, errW_some] <;> rfl), by first | exact Kd.R_nil _ _ _ _ _ | exact Kd.N_nil _ _ _ _ _ | exact Kd.V_nil _ _ _ _ _ | exact Kd.Q_nil _ _ _ _ _ | exact Kd.S_nil _ _ _ _ _, by repeat (first | (with_reducible first | exact HB.out | apply below_alloc | apply pw_below_drewN | apply below_drew1) | exact HB.out)⟩

/-! ### phalaropelaw05_VnameTells: function 5 -/
def phalaropelaw05_VnameTells.f (k : Nat) (a0 : ByteArray) : Option (Bool) := (phalaropelaw05_awake.f).bind fun t167 => (if (a0.size : Int) > 200 then (some t167) else (if t167 = true then ((vname_May.f a0).bind fun t168 => ((phalaroperef05_May.f k a0).bind fun t169 => (if (t168 == t169) = true then ((vname_Bad.f a0).bind fun t170 => ((phalaroperef05_Bad.f k a0).bind fun t171 => (if t170 = t171 then ((vname_End.f a0).bind fun t172 => ((phalaroperef05_End.f k a0).bind fun t173 => (if t172 = t173 then ((vname_Split.f a0).bind fun t174 => ((phalaroperef05_Split.f k a0).bind fun t177 => ((phalaroperef05_Texts.f k t174 t177).bind fun t180 => (some t180)))) else (some false)))) else (some false)))) else (some false)))) else (some false)))
theorem phalaropelaw05_VnameTells.mono : ∀ a0 k, LeO (phalaropelaw05_VnameTells.f k a0) (phalaropelaw05_VnameTells.f (k + 1) a0) := by
  intro a0 k
  unfold phalaropelaw05_VnameTells.f
  repeat' first
      | (with_reducible exact phalaroperef05_Bad.mono _ _)
      | (with_reducible exact phalaroperef05_End.mono _ _)
      | (with_reducible exact phalaroperef05_May.mono _ _)
      | (with_reducible exact phalaroperef05_Split.mono _ _)
      | (with_reducible exact phalaroperef05_Texts.mono _ _ _)
      | (with_reducible exact LeO.refl _)
      | (with_reducible exact LeO.none _)
      | (with_reducible refine LeO.ite ?_ ?_)
      | (with_reducible refine LeO.bind ?_ (fun _ => ?_))
      | exact phalaroperef05_Bad.mono _ _
      | exact phalaroperef05_End.mono _ _
      | exact phalaroperef05_May.mono _ _
      | exact phalaroperef05_Split.mono _ _
      | exact phalaroperef05_Texts.mono _ _ _
      | exact LeO.none _
      | refine LeO.ite ?_ ?_
      | refine LeO.bind ?_ (fun _ => ?_)
set_option maxHeartbeats 8000000 in
set_option maxRecDepth 100000 in
theorem phalaropelaw05_VnameTells.calls (k : Nat) (a0 : ByteArray) (r : Bool) (w : World) (h : phalaropelaw05_VnameTells.f k a0 = some r) :
    Calls Tryd.prog 5 #[.string a0] w fun e w' => e = .returned (.bool r) ∧ Below w.heap.size w w' := by
  have HB := Aside0.mk (Below.refl w.heap.size w)
  have H : ((phalaropelaw05_awake.f).bind fun t167 => (if (a0.size : Int) > 200 then (some t167) else (if t167 = true then ((vname_May.f a0).bind fun t168 => ((phalaroperef05_May.f k a0).bind fun t169 => (if (t168 == t169) = true then ((vname_Bad.f a0).bind fun t170 => ((phalaroperef05_Bad.f k a0).bind fun t171 => (if t170 = t171 then ((vname_End.f a0).bind fun t172 => ((phalaroperef05_End.f k a0).bind fun t173 => (if t172 = t173 then ((vname_Split.f a0).bind fun t174 => ((phalaroperef05_Split.f k a0).bind fun t177 => ((phalaroperef05_Texts.f k t174 t177).bind fun t180 => (some t180)))) else (some false)))) else (some false)))) else (some false)))) else (some false)))) = some r := h
  clear h
  replace H := Option.bind_eq_some_iff.mp H
  obtain ⟨t167, A20, H⟩ := H
  replace H : (if (a0.size : Int) > 200 then (some t167) else (if t167 = true then ((vname_May.f a0).bind fun t168 => ((phalaroperef05_May.f k a0).bind fun t169 => (if (t168 == t169) = true then ((vname_Bad.f a0).bind fun t170 => ((phalaroperef05_Bad.f k a0).bind fun t171 => (if t170 = t171 then ((vname_End.f a0).bind fun t172 => ((phalaroperef05_End.f k a0).bind fun t173 => (if t172 = t173 then ((vname_Split.f a0).bind fun t174 => ((phalaroperef05_Split.f k a0).bind fun t177 => ((phalaroperef05_Texts.f k t174 t177).bind fun t180 => (some t180)))) else (some false)))) else (some false)))) else (some false)))) else (some false))) = some r := H
  have A2 := Aside0.mk A20
  clear A20
  by_cases c3 : (a0.size : Int) > 200
  · rw [if_pos c3] at H
    have c3b0 : decide (200 < (a0.size : Int)) = true := decide_eq_true c3
    have c3b1 : decide (200 < a0.size) = true := decide_eq_true (by omega)
    clear c3
    obtain rfl := Option.some.inj H
    go_enter Tryd.func5, Tryd.ntmps5
    go_wp2_with (first | ((with_reducible refine gate_callee (f := 9) rfl ?_); refine goesL_ (some 4) rfl rfl Tryd.func9 (by kernel_rfl) rfl #[] rfl (by (try simp only [List.map_toArray, List.map_cons, List.map_nil]); first | done | rfl | (simp only [List.length_drop, List.length_take]; rfl)) ?_; (with_reducible refine (phalaropelaw05_awake.calls  t167 _ A2.out).mono ?_); rintro e w4 ⟨rfl, hb⟩; refine ⟨_, rfl, ?_⟩; have n0_ := Aside0.mk (below_step (by repeat (first | (with_reducible first | exact HB.out | apply below_alloc | apply pw_below_drewN | apply below_drew1) | exact HB.out)) hb); clear HB; have HB := n0_; clear n0_; (try clear hb); (try clear hb2); (try clear hk); (try clear hi)))
    go_ret
    exact ⟨by first | rfl | (simp [errW_none, errW_some] <;> rfl) | (simp [*, errW_none, errW_some] <;> rfl), by repeat (first | (with_reducible first | exact HB.out | apply below_alloc | apply pw_below_drewN | apply below_drew1) | exact HB.out)⟩
  · rw [if_neg c3] at H
    have c3b0 : decide (200 < (a0.size : Int)) = false := decide_eq_false c3
    have c3b1 : decide (200 < a0.size) = false := decide_eq_false (by omega)
    clear c3
    by_cases c5 : t167 = true
    · subst c5
      have H1 : ((vname_May.f a0).bind fun t168 => ((phalaroperef05_May.f k a0).bind fun t169 => (if (t168 == t169) = true then ((vname_Bad.f a0).bind fun t170 => ((phalaroperef05_Bad.f k a0).bind fun t171 => (if t170 = t171 then ((vname_End.f a0).bind fun t172 => ((phalaroperef05_End.f k a0).bind fun t173 => (if t172 = t173 then ((vname_Split.f a0).bind fun t174 => ((phalaroperef05_Split.f k a0).bind fun t177 => ((phalaroperef05_Texts.f k t174 t177).bind fun t180 => (some t180)))) else (some false)))) else (some false)))) else (some false)))) = some r := by rw [if_pos rfl] at H; exact H
      clear H
      have H := H1
      clear H1
      replace H := Option.bind_eq_some_iff.mp H
      obtain ⟨t168, A60, H⟩ := H
      replace H : ((phalaroperef05_May.f k a0).bind fun t169 => (if (t168 == t169) = true then ((vname_Bad.f a0).bind fun t170 => ((phalaroperef05_Bad.f k a0).bind fun t171 => (if t170 = t171 then ((vname_End.f a0).bind fun t172 => ((phalaroperef05_End.f k a0).bind fun t173 => (if t172 = t173 then ((vname_Split.f a0).bind fun t174 => ((phalaroperef05_Split.f k a0).bind fun t177 => ((phalaroperef05_Texts.f k t174 t177).bind fun t180 => (some t180)))) else (some false)))) else (some false)))) else (some false))) = some r := H
      have A6 := Aside0.mk A60
      clear A60
      replace H := Option.bind_eq_some_iff.mp H
      obtain ⟨t169, A70, H⟩ := H
      replace H : (if (t168 == t169) = true then ((vname_Bad.f a0).bind fun t170 => ((phalaroperef05_Bad.f k a0).bind fun t171 => (if t170 = t171 then ((vname_End.f a0).bind fun t172 => ((phalaroperef05_End.f k a0).bind fun t173 => (if t172 = t173 then ((vname_Split.f a0).bind fun t174 => ((phalaroperef05_Split.f k a0).bind fun t177 => ((phalaroperef05_Texts.f k t174 t177).bind fun t180 => (some t180)))) else (some false)))) else (some false)))) else (some false)) = some r := H
      have A7 := Aside0.mk A70
      clear A70
      by_cases c8 : (t168 == t169) = true
      · rw [if_pos c8] at H
        have c8b0 : (t168 == t169) = true := c8
        (try (have c8b1 : decide (t168 = t169) = true := by simpa using c8))
        (try (have c8b2 : (t168 == t169) = true := by simpa using c8))
        clear c8
        replace H := Option.bind_eq_some_iff.mp H
        obtain ⟨t170, A90, H⟩ := H
        replace H : ((phalaroperef05_Bad.f k a0).bind fun t171 => (if t170 = t171 then ((vname_End.f a0).bind fun t172 => ((phalaroperef05_End.f k a0).bind fun t173 => (if t172 = t173 then ((vname_Split.f a0).bind fun t174 => ((phalaroperef05_Split.f k a0).bind fun t177 => ((phalaroperef05_Texts.f k t174 t177).bind fun t180 => (some t180)))) else (some false)))) else (some false))) = some r := H
        have A9 := Aside0.mk A90
        clear A90
        replace H := Option.bind_eq_some_iff.mp H
        obtain ⟨t171, A100, H⟩ := H
        replace H : (if t170 = t171 then ((vname_End.f a0).bind fun t172 => ((phalaroperef05_End.f k a0).bind fun t173 => (if t172 = t173 then ((vname_Split.f a0).bind fun t174 => ((phalaroperef05_Split.f k a0).bind fun t177 => ((phalaroperef05_Texts.f k t174 t177).bind fun t180 => (some t180)))) else (some false)))) else (some false)) = some r := H
        have A10 := Aside0.mk A100
        clear A100
        by_cases c11 : t170 = t171
        · rw [if_pos c11] at H
          have c11b0 : (t170 == t171) = true := beq_iff_eq.mpr c11
          have c11b1 : (t170 != t171) = false := bne_eq_false_iff_eq.mpr c11
          clear c11
          replace H := Option.bind_eq_some_iff.mp H
          obtain ⟨t172, A120, H⟩ := H
          replace H : ((phalaroperef05_End.f k a0).bind fun t173 => (if t172 = t173 then ((vname_Split.f a0).bind fun t174 => ((phalaroperef05_Split.f k a0).bind fun t177 => ((phalaroperef05_Texts.f k t174 t177).bind fun t180 => (some t180)))) else (some false))) = some r := H
          have A12 := Aside0.mk A120
          clear A120
          replace H := Option.bind_eq_some_iff.mp H
          obtain ⟨t173, A130, H⟩ := H
          replace H : (if t172 = t173 then ((vname_Split.f a0).bind fun t174 => ((phalaroperef05_Split.f k a0).bind fun t177 => ((phalaroperef05_Texts.f k t174 t177).bind fun t180 => (some t180)))) else (some false)) = some r := H
          have A13 := Aside0.mk A130
          clear A130
          by_cases c14 : t172 = t173
          · rw [if_pos c14] at H
            have c14b0 : (t172 == t173) = true := beq_iff_eq.mpr c14
            have c14b1 : (t172 != t173) = false := bne_eq_false_iff_eq.mpr c14
            clear c14
            replace H := Option.bind_eq_some_iff.mp H
            obtain ⟨t174, A150, H⟩ := H
            replace H : ((phalaroperef05_Split.f k a0).bind fun t177 => ((phalaroperef05_Texts.f k t174 t177).bind fun t180 => (some t180))) = some r := H
            have A15 := Aside0.mk A150
            clear A150
            replace H := Option.bind_eq_some_iff.mp H
            obtain ⟨t177, A160, H⟩ := H
            replace H : ((phalaroperef05_Texts.f k t174 t177).bind fun t180 => (some t180)) = some r := H
            have A16 := Aside0.mk A160
            clear A160
            replace H := Option.bind_eq_some_iff.mp H
            obtain ⟨t180, A170, H⟩ := H
            replace H : (some t180) = some r := H
            have A17 := Aside0.mk A170
            clear A170
            obtain rfl := Option.some.inj H
            go_enter Tryd.func5, Tryd.ntmps5
            go_wp2_with (first | ((with_reducible refine gate_callee (f := 9) rfl ?_); refine goesL_ (some 4) rfl rfl Tryd.func9 (by kernel_rfl) rfl #[] rfl (by (try simp only [List.map_toArray, List.map_cons, List.map_nil]); first | done | rfl | (simp only [List.length_drop, List.length_take]; rfl)) ?_; (with_reducible refine (phalaropelaw05_awake.calls  true _ A2.out).mono ?_); rintro e w18 ⟨rfl, hb⟩; refine ⟨_, rfl, ?_⟩; have n0_ := Aside0.mk (below_step (by repeat (first | (with_reducible first | exact HB.out | apply below_alloc | apply pw_below_drewN | apply below_drew1) | exact HB.out)) hb); clear HB; have HB := n0_; clear n0_; (try clear hb); (try clear hb2); (try clear hk); (try clear hi)) | (go_at_call 10; (with_reducible refine (vname_May.calls a0 t168 _ A6.out).mono ?_); rintro e w19 ⟨rfl, hb⟩; have n0_ := Aside0.mk (below_step (by repeat (first | (with_reducible first | exact HB.out | apply below_alloc | apply pw_below_drewN | apply below_drew1) | exact HB.out)) hb); clear HB; have HB := n0_; clear n0_; (try clear hb); (try clear hb2); (try clear hk); (try clear hi)) | (go_at_call 15; (with_reducible refine (phalaroperef05_May.calls k a0 t169 _ A7.out).mono ?_); rintro e w' ⟨rfl, ⟨nd, rfl⟩⟩) | (go_at_call 13; (with_reducible refine (vname_Bad.calls a0 t170 _ A9.out).mono ?_); rintro e w20 ⟨rfl, hb⟩; have n0_ := Aside0.mk (below_step (by repeat (first | (with_reducible first | exact HB.out | apply below_alloc | apply pw_below_drewN | apply below_drew1) | exact HB.out)) hb); clear HB; have HB := n0_; clear n0_; (try clear hb); (try clear hb2); (try clear hk); (try clear hi)) | (go_at_call 16; (with_reducible refine (phalaroperef05_Bad.calls k a0 t171 _ A10.out).mono ?_); rintro e w' ⟨rfl, ⟨nd, rfl⟩⟩) | (go_at_call 11; (with_reducible refine (vname_End.calls a0 t172 _ A12.out).mono ?_); rintro e w21 ⟨rfl, hb⟩; have n0_ := Aside0.mk (below_step (by repeat (first | (with_reducible first | exact HB.out | apply below_alloc | apply pw_below_drewN | apply below_drew1) | exact HB.out)) hb); clear HB; have HB := n0_; clear n0_; (try clear hb); (try clear hb2); (try clear hk); (try clear hi)) | (go_at_call 17; (with_reducible refine (phalaroperef05_End.calls k a0 t173 _ A13.out).mono ?_); rintro e w' ⟨rfl, ⟨nd, rfl⟩⟩) | (go_at_call 14; (with_reducible refine (vname_Split.calls a0 t174 _ A15.out).mono ?_); rintro e w22 ⟨v175, rfl, ho0, hb⟩; have n0_ := Aside0.mk (Kd.R_lower ho0 (below_size (by repeat (first | (with_reducible first | exact HB.out | apply below_alloc | apply pw_below_drewN | apply below_drew1) | exact HB.out)))); have n1_ := Aside0.mk (below_step (by repeat (first | (with_reducible first | exact HB.out | apply below_alloc | apply pw_below_drewN | apply below_drew1) | exact HB.out)) hb); clear HB; have HO176 := n0_; have HB := n1_; clear n0_ n1_; (try clear hb); (try clear hb2); (try clear hk); (try clear hi); (try clear ho0)) | (go_at_call 19; (with_reducible refine (phalaroperef05_Split.calls k a0 t177 _ A16.out).mono ?_); rintro e w23 ⟨v178, rfl, ho0, hb⟩; have n0_ := Aside0.mk (Kd.R_elder' (by (with_reducible repeat (first | apply Kd.R_alloc | apply Kd.R_drewN | apply Kd.R_drew)); exact HO176.out) (Kd.R_base ho0) hb); have n1_ := Aside0.mk (Kd.R_lower (Kd.R_new' ho0 (Kd.R_lt (by (with_reducible repeat (first | apply Kd.R_alloc | apply Kd.R_drewN | apply Kd.R_drew)); exact HO176.out))) (below_size (by repeat (first | (with_reducible first | exact HB.out | apply below_alloc | apply pw_below_drewN | apply below_drew1) | exact HB.out)))); have n2_ := Aside0.mk (below_step (by repeat (first | (with_reducible first | exact HB.out | apply below_alloc | apply pw_below_drewN | apply below_drew1) | exact HB.out)) hb); clear HO176; clear HB; have HO176 := n0_; have HO179 := n1_; have HB := n2_; clear n0_ n1_ n2_; (try clear hb); (try clear hb2); (try clear hk); (try clear hi); (try clear ho0); obtain ⟨Ao24, co24, eo24⟩ := Kd.R_slice HO176.out; subst eo24; obtain ⟨Ao25, co25, eo25⟩ := Kd.R_slice HO179.out; subst eo25) | (go_at_call 18; (with_reducible refine (phalaroperef05_Texts.calls k _ _ t174 _ _ t177 t180 _ ?side1 ?side2 ?side3 ?side4 A17.out).mono ?_); (case side1 => repeat (first | exact (Kd.R_reads' HO176.out).2.2 | (with_reducible refine Kd.C_alloc ?_ _) | (with_reducible refine Kd.C_drewN ?_ _) | (with_reducible refine Kd.C_drew ?_))); (case side2 => exact (Kd.R_reads' HO176.out).2.1); (case side3 => repeat (first | exact (Kd.R_reads' HO179.out).2.2 | (with_reducible refine Kd.C_alloc ?_ _) | (with_reducible refine Kd.C_drewN ?_ _) | (with_reducible refine Kd.C_drew ?_))); (case side4 => exact (Kd.R_reads' HO179.out).2.1); rintro e w' ⟨rfl, ⟨nd, rfl⟩⟩))
            go_ret
            exact ⟨by first | rfl | (simp [errW_none, errW_some] <;> rfl) | (simp [*, errW_none, errW_some] <;> rfl), by repeat (first | (with_reducible first | exact HB.out | apply below_alloc | apply pw_below_drewN | apply below_drew1) | exact HB.out)⟩
          · rw [if_neg c14] at H
            have c14b0 : (t172 == t173) = false := beq_eq_false_iff_ne.mpr c14
            have c14b1 : (t172 != t173) = true := bne_iff_ne.mpr c14
            obtain rfl := Option.some.inj H
            go_enter Tryd.func5, Tryd.ntmps5
            go_wp2_with (first | ((with_reducible refine gate_callee (f := 9) rfl ?_); refine goesL_ (some 4) rfl rfl Tryd.func9 (by kernel_rfl) rfl #[] rfl (by (try simp only [List.map_toArray, List.map_cons, List.map_nil]); first | done | rfl | (simp only [List.length_drop, List.length_take]; rfl)) ?_; (with_reducible refine (phalaropelaw05_awake.calls  true _ A2.out).mono ?_); rintro e w26 ⟨rfl, hb⟩; refine ⟨_, rfl, ?_⟩; have n0_ := Aside0.mk (below_step (by repeat (first | (with_reducible first | exact HB.out | apply below_alloc | apply pw_below_drewN | apply below_drew1) | exact HB.out)) hb); clear HB; have HB := n0_; clear n0_; (try clear hb); (try clear hb2); (try clear hk); (try clear hi)) | (go_at_call 10; (with_reducible refine (vname_May.calls a0 t168 _ A6.out).mono ?_); rintro e w27 ⟨rfl, hb⟩; have n0_ := Aside0.mk (below_step (by repeat (first | (with_reducible first | exact HB.out | apply below_alloc | apply pw_below_drewN | apply below_drew1) | exact HB.out)) hb); clear HB; have HB := n0_; clear n0_; (try clear hb); (try clear hb2); (try clear hk); (try clear hi)) | (go_at_call 15; (with_reducible refine (phalaroperef05_May.calls k a0 t169 _ A7.out).mono ?_); rintro e w' ⟨rfl, ⟨nd, rfl⟩⟩) | (go_at_call 13; (with_reducible refine (vname_Bad.calls a0 t170 _ A9.out).mono ?_); rintro e w28 ⟨rfl, hb⟩; have n0_ := Aside0.mk (below_step (by repeat (first | (with_reducible first | exact HB.out | apply below_alloc | apply pw_below_drewN | apply below_drew1) | exact HB.out)) hb); clear HB; have HB := n0_; clear n0_; (try clear hb); (try clear hb2); (try clear hk); (try clear hi)) | (go_at_call 16; (with_reducible refine (phalaroperef05_Bad.calls k a0 t171 _ A10.out).mono ?_); rintro e w' ⟨rfl, ⟨nd, rfl⟩⟩) | (go_at_call 11; (with_reducible refine (vname_End.calls a0 t172 _ A12.out).mono ?_); rintro e w29 ⟨rfl, hb⟩; have n0_ := Aside0.mk (below_step (by repeat (first | (with_reducible first | exact HB.out | apply below_alloc | apply pw_below_drewN | apply below_drew1) | exact HB.out)) hb); clear HB; have HB := n0_; clear n0_; (try clear hb); (try clear hb2); (try clear hk); (try clear hi)) | (go_at_call 17; (with_reducible refine (phalaroperef05_End.calls k a0 t173 _ A13.out).mono ?_); rintro e w' ⟨rfl, ⟨nd, rfl⟩⟩))
            go_ret
            exact ⟨by first | rfl | (simp [errW_none, errW_some] <;> rfl) | (simp [*, errW_none, errW_some] <;> rfl), by repeat (first | (with_reducible first | exact HB.out | apply below_alloc | apply pw_below_drewN | apply below_drew1) | exact HB.out)⟩
        · rw [if_neg c11] at H
          have c11b0 : (t170 == t171) = false := beq_eq_false_iff_ne.mpr c11
          have c11b1 : (t170 != t171) = true := bne_iff_ne.mpr c11
          obtain rfl := Option.some.inj H
          go_enter Tryd.func5, Tryd.ntmps5
          go_wp2_with (first | ((with_reducible refine gate_callee (f := 9) rfl ?_); refine goesL_ (some 4) rfl rfl Tryd.func9 (by kernel_rfl) rfl #[] rfl (by (try simp only [List.map_toArray, List.map_cons, List.map_nil]); first | done | rfl | (simp only [List.length_drop, List.length_take]; rfl)) ?_; (with_reducible refine (phalaropelaw05_awake.calls  true _ A2.out).mono ?_); rintro e w30 ⟨rfl, hb⟩; refine ⟨_, rfl, ?_⟩; have n0_ := Aside0.mk (below_step (by repeat (first | (with_reducible first | exact HB.out | apply below_alloc | apply pw_below_drewN | apply below_drew1) | exact HB.out)) hb); clear HB; have HB := n0_; clear n0_; (try clear hb); (try clear hb2); (try clear hk); (try clear hi)) | (go_at_call 10; (with_reducible refine (vname_May.calls a0 t168 _ A6.out).mono ?_); rintro e w31 ⟨rfl, hb⟩; have n0_ := Aside0.mk (below_step (by repeat (first | (with_reducible first | exact HB.out | apply below_alloc | apply pw_below_drewN | apply below_drew1) | exact HB.out)) hb); clear HB; have HB := n0_; clear n0_; (try clear hb); (try clear hb2); (try clear hk); (try clear hi)) | (go_at_call 15; (with_reducible refine (phalaroperef05_May.calls k a0 t169 _ A7.out).mono ?_); rintro e w' ⟨rfl, ⟨nd, rfl⟩⟩) | (go_at_call 13; (with_reducible refine (vname_Bad.calls a0 t170 _ A9.out).mono ?_); rintro e w32 ⟨rfl, hb⟩; have n0_ := Aside0.mk (below_step (by repeat (first | (with_reducible first | exact HB.out | apply below_alloc | apply pw_below_drewN | apply below_drew1) | exact HB.out)) hb); clear HB; have HB := n0_; clear n0_; (try clear hb); (try clear hb2); (try clear hk); (try clear hi)) | (go_at_call 16; (with_reducible refine (phalaroperef05_Bad.calls k a0 t171 _ A10.out).mono ?_); rintro e w' ⟨rfl, ⟨nd, rfl⟩⟩))
          go_ret
          exact ⟨by first | rfl | (simp [errW_none, errW_some] <;> rfl) | (simp [*, errW_none, errW_some] <;> rfl), by repeat (first | (with_reducible first | exact HB.out | apply below_alloc | apply pw_below_drewN | apply below_drew1) | exact HB.out)⟩
      · rw [if_neg c8] at H
        have c8b0 : (t168 == t169) = false := by simpa using c8
        (try (have c8b1 : decide (t168 = t169) = false := by simpa using c8))
        (try (have c8b2 : (t168 == t169) = false := by simpa using c8))
        (try (have c8b3 : ¬ (t168 = t169) := by simpa using c8))
        clear c8
        obtain rfl := Option.some.inj H
        go_enter Tryd.func5, Tryd.ntmps5
        go_wp2_with (first | ((with_reducible refine gate_callee (f := 9) rfl ?_); refine goesL_ (some 4) rfl rfl Tryd.func9 (by kernel_rfl) rfl #[] rfl (by (try simp only [List.map_toArray, List.map_cons, List.map_nil]); first | done | rfl | (simp only [List.length_drop, List.length_take]; rfl)) ?_; (with_reducible refine (phalaropelaw05_awake.calls  true _ A2.out).mono ?_); rintro e w33 ⟨rfl, hb⟩; refine ⟨_, rfl, ?_⟩; have n0_ := Aside0.mk (below_step (by repeat (first | (with_reducible first | exact HB.out | apply below_alloc | apply pw_below_drewN | apply below_drew1) | exact HB.out)) hb); clear HB; have HB := n0_; clear n0_; (try clear hb); (try clear hb2); (try clear hk); (try clear hi)) | (go_at_call 10; (with_reducible refine (vname_May.calls a0 t168 _ A6.out).mono ?_); rintro e w34 ⟨rfl, hb⟩; have n0_ := Aside0.mk (below_step (by repeat (first | (with_reducible first | exact HB.out | apply below_alloc | apply pw_below_drewN | apply below_drew1) | exact HB.out)) hb); clear HB; have HB := n0_; clear n0_; (try clear hb); (try clear hb2); (try clear hk); (try clear hi)) | (go_at_call 15; (with_reducible refine (phalaroperef05_May.calls k a0 t169 _ A7.out).mono ?_); rintro e w' ⟨rfl, ⟨nd, rfl⟩⟩))
        go_ret
        exact ⟨by first | rfl | (simp [errW_none, errW_some] <;> rfl) | (simp [*, errW_none, errW_some] <;> rfl), by repeat (first | (with_reducible first | exact HB.out | apply below_alloc | apply pw_below_drewN | apply below_drew1) | exact HB.out)⟩
    · replace c5 := Bool.eq_false_iff.mpr c5
      subst c5
      have H1 : (some false) = some r := by rw [if_neg (show ¬ (false = true) by decide)] at H; exact H
      clear H
      have H := H1
      clear H1
      obtain rfl := Option.some.inj H
      go_enter Tryd.func5, Tryd.ntmps5
      go_wp2_with (first | ((with_reducible refine gate_callee (f := 9) rfl ?_); refine goesL_ (some 4) rfl rfl Tryd.func9 (by kernel_rfl) rfl #[] rfl (by (try simp only [List.map_toArray, List.map_cons, List.map_nil]); first | done | rfl | (simp only [List.length_drop, List.length_take]; rfl)) ?_; (with_reducible refine (phalaropelaw05_awake.calls  false _ A2.out).mono ?_); rintro e w35 ⟨rfl, hb⟩; refine ⟨_, rfl, ?_⟩; have n0_ := Aside0.mk (below_step (by repeat (first | (with_reducible first | exact HB.out | apply below_alloc | apply pw_below_drewN | apply below_drew1) | exact HB.out)) hb); clear HB; have HB := n0_; clear n0_; (try clear hb); (try clear hb2); (try clear hk); (try clear hi)))
      go_ret
      exact ⟨by first | rfl | (simp [errW_none, errW_some] <;> rfl) | (simp [*, errW_none, errW_some] <;> rfl), by repeat (first | (with_reducible first | exact HB.out | apply below_alloc | apply pw_below_drewN | apply below_drew1) | exact HB.out)⟩

/-- THE ONE PURE STATEMENT of phalaropelaw05_VnameTells: yours. -/
def phalaropelaw05_VnameTells.Pure : Prop := ∀ (a0 : ByteArray), a0.size ≤ 140737488351232 → ∃ k, phalaropelaw05_VnameTells.f k a0 = some true
theorem phalaropelaw05_VnameTells.walk (P : phalaropelaw05_VnameTells.Pure) (a0 : ByteArray) (w : World) (w0 : a0.size ≤ 140737488351232) :
    Calls Tryd.prog 5 #[.string a0] w fun e w' => e = .returned (.bool true) ∧ Below w.heap.size w w' := by
  obtain ⟨k, h⟩ := P a0 w0
  refine (phalaropelaw05_VnameTells.calls k a0 true w h).mono ?_
  rintro e w' ⟨rfl, hd⟩
  exact ⟨rfl, hd⟩

/-! ### phalaropelaw05_VnameJoins: function 6 -/
def phalaropelaw05_VnameJoins.j0 : Nat → ByteArray → ByteArray → Bool → Bool → Option (Bool)
  | 0, _, _, _, _ => none
  | k + 1, x0, x1, x5, x24 => if x24 = true then (some x5) else (if x5 = true then (if x0.size + x1.size ≤ 9223372036854775807 then ((vname_May.f (x0 ++ x1)).bind fun t184 => (if t184 = true then (if x0.size + 1 ≤ 9223372036854775807 then (if (x0 ++ (⟨#[46]⟩ : ByteArray)).size + x1.size ≤ 9223372036854775807 then ((vname_May.f ((x0 ++ (⟨#[46]⟩ : ByteArray)) ++ x1)).bind fun t185 => (if t185 = true then (if x0.size + 2 ≤ 9223372036854775807 then (if (x0 ++ (⟨#[46, 46]⟩ : ByteArray)).size + x1.size ≤ 9223372036854775807 then ((vname_May.f ((x0 ++ (⟨#[46, 46]⟩ : ByteArray)) ++ x1)).bind fun t186 => (if t186 = true then (some false) else (if 1 + x0.size ≤ 9223372036854775807 then ((vname_May.f ((⟨#[46]⟩ : ByteArray) ++ x0)).bind fun t187 => (if t187 = true then (some false) else ((vname_May.f (x0 ++ (⟨#[46]⟩ : ByteArray))).bind fun t188 => (if t188 = true then (some false) else ((vname_Bad.f (x0 ++ (⟨#[46, 46]⟩ : ByteArray))).bind fun t189 => (some (t189 == (wrap64 ((x0.size : Int) + 1))))))))) else (none)))) else (none)) else (none)) else (some false))) else (none)) else (none)) else (some false))) else (none)) else (some false))
def phalaropelaw05_VnameJoins.f (k : Nat) (a0 : ByteArray) (a1 : ByteArray) : Option (Bool) := (phalaropelaw05_awake.f).bind fun t181 => (if (a0.size : Int) > 200 then (phalaropelaw05_VnameJoins.j0 k a0 a1 t181 true) else (if (a1.size : Int) > 200 then (phalaropelaw05_VnameJoins.j0 k a0 a1 t181 true) else ((vname_May.f a0).bind fun t182 => (if t182 = true then ((vname_May.f a1).bind fun t183 => (phalaropelaw05_VnameJoins.j0 k a0 a1 t181 (!t183))) else (phalaropelaw05_VnameJoins.j0 k a0 a1 t181 true)))))
theorem phalaropelaw05_VnameJoins.mono_l : ∀ k, (∀ y0 y1 y2 y3, LeO (phalaropelaw05_VnameJoins.j0 k y0 y1 y2 y3) (phalaropelaw05_VnameJoins.j0 (k + 1) y0 y1 y2 y3))
  | 0 => fun _ _ _ _ r h => by simp [phalaropelaw05_VnameJoins.j0] at h
  | k + 1 => by
    have ih0 := phalaropelaw05_VnameJoins.mono_l k
    · intro y0 y1 y2 y3
      unfold phalaropelaw05_VnameJoins.j0
      repeat' first
      | (with_reducible exact ih0 _ _ _ _)
      | (with_reducible exact LeO.refl _)
      | (with_reducible exact LeO.none _)
      | (with_reducible refine LeO.ite ?_ ?_)
      | (with_reducible refine LeO.bind ?_ (fun _ => ?_))
      | exact ih0 _ _ _ _
      | exact LeO.none _
      | refine LeO.ite ?_ ?_
      | refine LeO.bind ?_ (fun _ => ?_)
theorem phalaropelaw05_VnameJoins.mono : ∀ a0 a1 k, LeO (phalaropelaw05_VnameJoins.f k a0 a1) (phalaropelaw05_VnameJoins.f (k + 1) a0 a1) := by
  intro a0 a1 k
  have ih0 := phalaropelaw05_VnameJoins.mono_l k
  unfold phalaropelaw05_VnameJoins.f
  repeat' first
      | (with_reducible exact ih0 _ _ _ _)
      | (with_reducible exact LeO.refl _)
      | (with_reducible exact LeO.none _)
      | (with_reducible refine LeO.ite ?_ ?_)
      | (with_reducible refine LeO.bind ?_ (fun _ => ?_))
      | exact ih0 _ _ _ _
      | exact LeO.none _
      | refine LeO.ite ?_ ?_
      | refine LeO.bind ?_ (fun _ => ?_)
set_option maxHeartbeats 8000000 in
set_option maxRecDepth 100000 in
theorem phalaropelaw05_VnameJoins.calls (k : Nat) (a0 : ByteArray) (a1 : ByteArray) (r : Bool) (w : World) (h : phalaropelaw05_VnameJoins.f k a0 a1 = some r) :
    Calls Tryd.prog 6 #[.string a0, .string a1] w fun e w' => e = .returned (.bool r) ∧ Below w.heap.size w w' := by
  have HB := Aside0.mk (Below.refl w.heap.size w)
  have H : ((phalaropelaw05_awake.f).bind fun t181 => (if (a0.size : Int) > 200 then (phalaropelaw05_VnameJoins.j0 k a0 a1 t181 true) else (if (a1.size : Int) > 200 then (phalaropelaw05_VnameJoins.j0 k a0 a1 t181 true) else ((vname_May.f a0).bind fun t182 => (if t182 = true then ((vname_May.f a1).bind fun t183 => (phalaropelaw05_VnameJoins.j0 k a0 a1 t181 (!t183))) else (phalaropelaw05_VnameJoins.j0 k a0 a1 t181 true)))))) = some r := h
  clear h
  replace H := Option.bind_eq_some_iff.mp H
  obtain ⟨t181, A30, H⟩ := H
  replace H : (if (a0.size : Int) > 200 then (phalaropelaw05_VnameJoins.j0 k a0 a1 t181 true) else (if (a1.size : Int) > 200 then (phalaropelaw05_VnameJoins.j0 k a0 a1 t181 true) else ((vname_May.f a0).bind fun t182 => (if t182 = true then ((vname_May.f a1).bind fun t183 => (phalaropelaw05_VnameJoins.j0 k a0 a1 t181 (!t183))) else (phalaropelaw05_VnameJoins.j0 k a0 a1 t181 true))))) = some r := H
  have A3 := Aside0.mk A30
  clear A30
  have HC4 := Aside0.mk H
  clear H
  go_enter Tryd.func6, Tryd.ntmps6
  go_upto_region 2 with (first | ((with_reducible refine gate_callee (f := 9) rfl ?_); refine goesL_ (some 6) rfl rfl Tryd.func9 (by kernel_rfl) rfl #[] rfl (by (try simp only [List.map_toArray, List.map_cons, List.map_nil]); first | done | rfl | (simp only [List.length_drop, List.length_take]; rfl)) ?_; (with_reducible refine (phalaropelaw05_awake.calls  t181 _ A3.out).mono ?_); rintro e w5 ⟨rfl, hb⟩; refine ⟨_, rfl, ?_⟩; have n0_ := Aside0.mk (below_step (by repeat (first | (with_reducible first | exact HB.out | apply below_alloc | apply pw_below_drewN | apply below_drew1) | exact HB.out)) hb); clear HB; have HB := n0_; clear n0_; (try clear hb); (try clear hb2); (try clear hk); (try clear hi)))
  (try simp only [Act.put, List.setIfInBounds_toArray, List.set_cons_zero, List.set_cons_succ])
  go_cut [24] (fun v24 wc => ∃ (kq : Nat) (x24_3 : Bool), v24 = .bool x24_3 ∧ Aside0 (phalaropelaw05_VnameJoins.j0 kq a0 a1 t181 x24_3 = some r) ∧ Aside0 (kq ≤ k) ∧ Aside0 (Below w.heap.size w wc))
  case first =>
    have H := HC4.out
    clear HC4
    by_cases c6 : (a0.size : Int) > 200
    · rw [if_pos c6] at H
      have c6b0 : decide (200 < (a0.size : Int)) = true := decide_eq_true c6
      have c6b1 : decide (200 < a0.size) = true := decide_eq_true (by omega)
      clear c6
      (first | rw [c6b0] | (simp only [i64_w, i32_w]; rw [c6b0]) | skip)
      have H' := Aside0.mk H
      clear H
      go_wp2
      go_meet
      case rel => exact ⟨_, (true), (by first | rfl | (simp; done) | (simp [*]; done)), H', ⟨by first | omega | exact Nat.le_refl _⟩, ⟨by repeat (first | (with_reducible first | exact HB.out | apply below_alloc | apply pw_below_drewN | apply below_drew1) | exact HB.out)⟩⟩
    · rw [if_neg c6] at H
      have c6b0 : decide (200 < (a0.size : Int)) = false := decide_eq_false c6
      have c6b1 : decide (200 < a0.size) = false := decide_eq_false (by omega)
      clear c6
      (first | rw [c6b0] | (simp only [i64_w, i32_w]; rw [c6b0]) | skip)
      by_cases c7 : (a1.size : Int) > 200
      · rw [if_pos c7] at H
        have c7b0 : decide (200 < (a1.size : Int)) = true := decide_eq_true c7
        have c7b1 : decide (200 < a1.size) = true := decide_eq_true (by omega)
        clear c7
        have H' := Aside0.mk H
        clear H
        go_wp2
        go_meet
        case rel => exact ⟨_, (true), (by first | rfl | (simp; done) | (simp [*]; done)), H', ⟨by first | omega | exact Nat.le_refl _⟩, ⟨by repeat (first | (with_reducible first | exact HB.out | apply below_alloc | apply pw_below_drewN | apply below_drew1) | exact HB.out)⟩⟩
      · rw [if_neg c7] at H
        have c7b0 : decide (200 < (a1.size : Int)) = false := decide_eq_false c7
        have c7b1 : decide (200 < a1.size) = false := decide_eq_false (by omega)
        clear c7
        replace H := Option.bind_eq_some_iff.mp H
        obtain ⟨t182, A80, H⟩ := H
        replace H : (if t182 = true then ((vname_May.f a1).bind fun t183 => (phalaropelaw05_VnameJoins.j0 k a0 a1 t181 (!t183))) else (phalaropelaw05_VnameJoins.j0 k a0 a1 t181 true)) = some r := H
        have A8 := Aside0.mk A80
        clear A80
        by_cases c9 : t182 = true
        · subst c9
          have H1 : ((vname_May.f a1).bind fun t183 => (phalaropelaw05_VnameJoins.j0 k a0 a1 t181 (!t183))) = some r := by rw [if_pos rfl] at H; exact H
          clear H
          have H := H1
          clear H1
          replace H := Option.bind_eq_some_iff.mp H
          obtain ⟨t183, A100, H⟩ := H
          replace H : (phalaropelaw05_VnameJoins.j0 k a0 a1 t181 (!t183)) = some r := H
          have A10 := Aside0.mk A100
          clear A100
          have H' := Aside0.mk H
          clear H
          go_wp2_with (first | (go_at_call 10; (with_reducible refine (vname_May.calls a0 true _ A8.out).mono ?_); rintro e w11 ⟨rfl, hb⟩; have n0_ := Aside0.mk (below_step (by repeat (first | (with_reducible first | exact HB.out | apply below_alloc | apply pw_below_drewN | apply below_drew1) | exact HB.out)) hb); clear HB; have HB := n0_; clear n0_; (try clear hb); (try clear hb2); (try clear hk); (try clear hi)) | (go_at_call 10; (with_reducible refine (vname_May.calls a1 t183 _ A10.out).mono ?_); rintro e w12 ⟨rfl, hb⟩; have n0_ := Aside0.mk (below_step (by repeat (first | (with_reducible first | exact HB.out | apply below_alloc | apply pw_below_drewN | apply below_drew1) | exact HB.out)) hb); clear HB; have HB := n0_; clear n0_; (try clear hb); (try clear hb2); (try clear hk); (try clear hi)))
          go_meet
          case rel => exact ⟨_, (!t183), (by first | rfl | (simp; done) | (simp [*]; done)), H', ⟨by first | omega | exact Nat.le_refl _⟩, ⟨by repeat (first | (with_reducible first | exact HB.out | apply below_alloc | apply pw_below_drewN | apply below_drew1) | exact HB.out)⟩⟩
        · replace c9 := Bool.eq_false_iff.mpr c9
          subst c9
          have H1 : (phalaropelaw05_VnameJoins.j0 k a0 a1 t181 true) = some r := by rw [if_neg (show ¬ (false = true) by decide)] at H; exact H
          clear H
          have H := H1
          clear H1
          have H' := Aside0.mk H
          clear H
          go_wp2_with (first | (go_at_call 10; (with_reducible refine (vname_May.calls a0 false _ A8.out).mono ?_); rintro e w13 ⟨rfl, hb⟩; have n0_ := Aside0.mk (below_step (by repeat (first | (with_reducible first | exact HB.out | apply below_alloc | apply pw_below_drewN | apply below_drew1) | exact HB.out)) hb); clear HB; have HB := n0_; clear n0_; (try clear hb); (try clear hb2); (try clear hk); (try clear hi)))
          go_meet
          case rel => exact ⟨_, (true), (by first | rfl | (simp; done) | (simp [*]; done)), H', ⟨by first | omega | exact Nat.le_refl _⟩, ⟨by repeat (first | (with_reducible first | exact HB.out | apply below_alloc | apply pw_below_drewN | apply below_drew1) | exact HB.out)⟩⟩
  case rest =>
    clear HC4
    try clear p2
    try clear c6
    try clear c6b0
    try clear c6b1
    try clear c7
    try clear c7b0
    try clear c7b1
    try clear c9
    obtain ⟨kq, x24_3, rfl, HA, HJ3, HB⟩ := hcut
    cases kq with
    | zero => exact absurd HA.out (by simp [phalaropelaw05_VnameJoins.j0])
    | succ kj3 =>
      have H := HA.out
      clear HA
      simp only [phalaropelaw05_VnameJoins.j0] at H
      by_cases c14 : x24_3 = true
      · subst c14
        have H1 : (some t181) = some r := by rw [if_pos rfl] at H; exact H
        clear H
        have H := H1
        clear H1
        obtain rfl := Option.some.inj H
        go_wp2
        go_ret
        exact ⟨by first | rfl | (simp [errW_none, errW_some] <;> rfl) | (simp [*, errW_none, errW_some] <;> rfl), by repeat (first | (with_reducible first | exact HB.out | apply below_alloc | apply pw_below_drewN | apply below_drew1) | exact HB.out)⟩
      · replace c14 := Bool.eq_false_iff.mpr c14
        subst c14
        have H1 : (if t181 = true then (if a0.size + a1.size ≤ 9223372036854775807 then ((vname_May.f (a0 ++ a1)).bind fun t184 => (if t184 = true then (if a0.size + 1 ≤ 9223372036854775807 then (if (a0 ++ (⟨#[46]⟩ : ByteArray)).size + a1.size ≤ 9223372036854775807 then ((vname_May.f ((a0 ++ (⟨#[46]⟩ : ByteArray)) ++ a1)).bind fun t185 => (if t185 = true then (if a0.size + 2 ≤ 9223372036854775807 then (if (a0 ++ (⟨#[46, 46]⟩ : ByteArray)).size + a1.size ≤ 9223372036854775807 then ((vname_May.f ((a0 ++ (⟨#[46, 46]⟩ : ByteArray)) ++ a1)).bind fun t186 => (if t186 = true then (some false) else (if 1 + a0.size ≤ 9223372036854775807 then ((vname_May.f ((⟨#[46]⟩ : ByteArray) ++ a0)).bind fun t187 => (if t187 = true then (some false) else ((vname_May.f (a0 ++ (⟨#[46]⟩ : ByteArray))).bind fun t188 => (if t188 = true then (some false) else ((vname_Bad.f (a0 ++ (⟨#[46, 46]⟩ : ByteArray))).bind fun t189 => (some (t189 == (wrap64 ((a0.size : Int) + 1))))))))) else (none)))) else (none)) else (none)) else (some false))) else (none)) else (none)) else (some false))) else (none)) else (some false)) = some r := by rw [if_neg (show ¬ (false = true) by decide)] at H; exact H
        clear H
        have H := H1
        clear H1
        by_cases c15 : t181 = true
        · subst c15
          have H1 : (if a0.size + a1.size ≤ 9223372036854775807 then ((vname_May.f (a0 ++ a1)).bind fun t184 => (if t184 = true then (if a0.size + 1 ≤ 9223372036854775807 then (if (a0 ++ (⟨#[46]⟩ : ByteArray)).size + a1.size ≤ 9223372036854775807 then ((vname_May.f ((a0 ++ (⟨#[46]⟩ : ByteArray)) ++ a1)).bind fun t185 => (if t185 = true then (if a0.size + 2 ≤ 9223372036854775807 then (if (a0 ++ (⟨#[46, 46]⟩ : ByteArray)).size + a1.size ≤ 9223372036854775807 then ((vname_May.f ((a0 ++ (⟨#[46, 46]⟩ : ByteArray)) ++ a1)).bind fun t186 => (if t186 = true then (some false) else (if 1 + a0.size ≤ 9223372036854775807 then ((vname_May.f ((⟨#[46]⟩ : ByteArray) ++ a0)).bind fun t187 => (if t187 = true then (some false) else ((vname_May.f (a0 ++ (⟨#[46]⟩ : ByteArray))).bind fun t188 => (if t188 = true then (some false) else ((vname_Bad.f (a0 ++ (⟨#[46, 46]⟩ : ByteArray))).bind fun t189 => (some (t189 == (wrap64 ((a0.size : Int) + 1))))))))) else (none)))) else (none)) else (none)) else (some false))) else (none)) else (none)) else (some false))) else (none)) = some r := by rw [if_pos rfl] at H; exact H
          clear H
          have H := H1
          clear H1
          by_cases c16 : a0.size + a1.size ≤ 9223372036854775807
          · rw [if_pos c16] at H
            have c16b0 := eq_true c16
            have c16b1 : decide (a0.size + a1.size ≤ 9223372036854775807) = true := decide_eq_true c16
            try have c16b2 : (9223372036854775807 < a0.size + a1.size) = False := eq_false (Nat.not_lt.2 c16)
            replace H := Option.bind_eq_some_iff.mp H
            obtain ⟨t184, A170, H⟩ := H
            replace H : (if t184 = true then (if a0.size + 1 ≤ 9223372036854775807 then (if (a0 ++ (⟨#[46]⟩ : ByteArray)).size + a1.size ≤ 9223372036854775807 then ((vname_May.f ((a0 ++ (⟨#[46]⟩ : ByteArray)) ++ a1)).bind fun t185 => (if t185 = true then (if a0.size + 2 ≤ 9223372036854775807 then (if (a0 ++ (⟨#[46, 46]⟩ : ByteArray)).size + a1.size ≤ 9223372036854775807 then ((vname_May.f ((a0 ++ (⟨#[46, 46]⟩ : ByteArray)) ++ a1)).bind fun t186 => (if t186 = true then (some false) else (if 1 + a0.size ≤ 9223372036854775807 then ((vname_May.f ((⟨#[46]⟩ : ByteArray) ++ a0)).bind fun t187 => (if t187 = true then (some false) else ((vname_May.f (a0 ++ (⟨#[46]⟩ : ByteArray))).bind fun t188 => (if t188 = true then (some false) else ((vname_Bad.f (a0 ++ (⟨#[46, 46]⟩ : ByteArray))).bind fun t189 => (some (t189 == (wrap64 ((a0.size : Int) + 1))))))))) else (none)))) else (none)) else (none)) else (some false))) else (none)) else (none)) else (some false)) = some r := H
            have A17 := Aside0.mk A170
            clear A170
            by_cases c18 : t184 = true
            · subst c18
              have H1 : (if a0.size + 1 ≤ 9223372036854775807 then (if (a0 ++ (⟨#[46]⟩ : ByteArray)).size + a1.size ≤ 9223372036854775807 then ((vname_May.f ((a0 ++ (⟨#[46]⟩ : ByteArray)) ++ a1)).bind fun t185 => (if t185 = true then (if a0.size + 2 ≤ 9223372036854775807 then (if (a0 ++ (⟨#[46, 46]⟩ : ByteArray)).size + a1.size ≤ 9223372036854775807 then ((vname_May.f ((a0 ++ (⟨#[46, 46]⟩ : ByteArray)) ++ a1)).bind fun t186 => (if t186 = true then (some false) else (if 1 + a0.size ≤ 9223372036854775807 then ((vname_May.f ((⟨#[46]⟩ : ByteArray) ++ a0)).bind fun t187 => (if t187 = true then (some false) else ((vname_May.f (a0 ++ (⟨#[46]⟩ : ByteArray))).bind fun t188 => (if t188 = true then (some false) else ((vname_Bad.f (a0 ++ (⟨#[46, 46]⟩ : ByteArray))).bind fun t189 => (some (t189 == (wrap64 ((a0.size : Int) + 1))))))))) else (none)))) else (none)) else (none)) else (some false))) else (none)) else (none)) = some r := by rw [if_pos rfl] at H; exact H
              clear H
              have H := H1
              clear H1
              by_cases c19 : a0.size + 1 ≤ 9223372036854775807
              · rw [if_pos c19] at H
                have c19b0 := eq_true c19
                have c19b1 : decide (a0.size + 1 ≤ 9223372036854775807) = true := decide_eq_true c19
                try have c19b2 : (9223372036854775807 < a0.size + 1) = False := eq_false (Nat.not_lt.2 c19)
                by_cases c20 : (a0 ++ (⟨#[46]⟩ : ByteArray)).size + a1.size ≤ 9223372036854775807
                · rw [if_pos c20] at H
                  have c20b0 := eq_true c20
                  have c20b1 : decide ((a0 ++ (⟨#[46]⟩ : ByteArray)).size + a1.size ≤ 9223372036854775807) = true := decide_eq_true c20
                  try have c20b2 : (9223372036854775807 < (a0 ++ (⟨#[46]⟩ : ByteArray)).size + a1.size) = False := eq_false (Nat.not_lt.2 c20)
                  replace H := Option.bind_eq_some_iff.mp H
                  obtain ⟨t185, A210, H⟩ := H
                  replace H : (if t185 = true then (if a0.size + 2 ≤ 9223372036854775807 then (if (a0 ++ (⟨#[46, 46]⟩ : ByteArray)).size + a1.size ≤ 9223372036854775807 then ((vname_May.f ((a0 ++ (⟨#[46, 46]⟩ : ByteArray)) ++ a1)).bind fun t186 => (if t186 = true then (some false) else (if 1 + a0.size ≤ 9223372036854775807 then ((vname_May.f ((⟨#[46]⟩ : ByteArray) ++ a0)).bind fun t187 => (if t187 = true then (some false) else ((vname_May.f (a0 ++ (⟨#[46]⟩ : ByteArray))).bind fun t188 => (if t188 = true then (some false) else ((vname_Bad.f (a0 ++ (⟨#[46, 46]⟩ : ByteArray))).bind fun t189 => (some (t189 == (wrap64 ((a0.size : Int) + 1))))))))) else (none)))) else (none)) else (none)) else (some false)) = some r := H
                  have A21 := Aside0.mk A210
                  clear A210
                  by_cases c22 : t185 = true
                  · subst c22
                    have H1 : (if a0.size + 2 ≤ 9223372036854775807 then (if (a0 ++ (⟨#[46, 46]⟩ : ByteArray)).size + a1.size ≤ 9223372036854775807 then ((vname_May.f ((a0 ++ (⟨#[46, 46]⟩ : ByteArray)) ++ a1)).bind fun t186 => (if t186 = true then (some false) else (if 1 + a0.size ≤ 9223372036854775807 then ((vname_May.f ((⟨#[46]⟩ : ByteArray) ++ a0)).bind fun t187 => (if t187 = true then (some false) else ((vname_May.f (a0 ++ (⟨#[46]⟩ : ByteArray))).bind fun t188 => (if t188 = true then (some false) else ((vname_Bad.f (a0 ++ (⟨#[46, 46]⟩ : ByteArray))).bind fun t189 => (some (t189 == (wrap64 ((a0.size : Int) + 1))))))))) else (none)))) else (none)) else (none)) = some r := by rw [if_pos rfl] at H; exact H
                    clear H
                    have H := H1
                    clear H1
                    by_cases c23 : a0.size + 2 ≤ 9223372036854775807
                    · rw [if_pos c23] at H
                      have c23b0 := eq_true c23
                      have c23b1 : decide (a0.size + 2 ≤ 9223372036854775807) = true := decide_eq_true c23
                      try have c23b2 : (9223372036854775807 < a0.size + 2) = False := eq_false (Nat.not_lt.2 c23)
                      by_cases c24 : (a0 ++ (⟨#[46, 46]⟩ : ByteArray)).size + a1.size ≤ 9223372036854775807
                      · rw [if_pos c24] at H
                        have c24b0 := eq_true c24
                        have c24b1 : decide ((a0 ++ (⟨#[46, 46]⟩ : ByteArray)).size + a1.size ≤ 9223372036854775807) = true := decide_eq_true c24
                        try have c24b2 : (9223372036854775807 < (a0 ++ (⟨#[46, 46]⟩ : ByteArray)).size + a1.size) = False := eq_false (Nat.not_lt.2 c24)
                        replace H := Option.bind_eq_some_iff.mp H
                        obtain ⟨t186, A250, H⟩ := H
                        replace H : (if t186 = true then (some false) else (if 1 + a0.size ≤ 9223372036854775807 then ((vname_May.f ((⟨#[46]⟩ : ByteArray) ++ a0)).bind fun t187 => (if t187 = true then (some false) else ((vname_May.f (a0 ++ (⟨#[46]⟩ : ByteArray))).bind fun t188 => (if t188 = true then (some false) else ((vname_Bad.f (a0 ++ (⟨#[46, 46]⟩ : ByteArray))).bind fun t189 => (some (t189 == (wrap64 ((a0.size : Int) + 1))))))))) else (none))) = some r := H
                        have A25 := Aside0.mk A250
                        clear A250
                        by_cases c26 : t186 = true
                        · subst c26
                          have H1 : (some false) = some r := by rw [if_pos rfl] at H; exact H
                          clear H
                          have H := H1
                          clear H1
                          obtain rfl := Option.some.inj H
                          go_wp2_with (first | (go_at_call 10; (with_reducible refine (vname_May.calls (a0 ++ a1) true _ A17.out).mono ?_); rintro e w27 ⟨rfl, hb⟩; have n0_ := Aside0.mk (below_step (by repeat (first | (with_reducible first | exact HB.out | apply below_alloc | apply pw_below_drewN | apply below_drew1) | exact HB.out)) hb); clear HB; have HB := n0_; clear n0_; (try clear hb); (try clear hb2); (try clear hk); (try clear hi)) | (go_at_call 10; (with_reducible refine (vname_May.calls ((a0 ++ (⟨#[46]⟩ : ByteArray)) ++ a1) true _ A21.out).mono ?_); rintro e w28 ⟨rfl, hb⟩; have n0_ := Aside0.mk (below_step (by repeat (first | (with_reducible first | exact HB.out | apply below_alloc | apply pw_below_drewN | apply below_drew1) | exact HB.out)) hb); clear HB; have HB := n0_; clear n0_; (try clear hb); (try clear hb2); (try clear hk); (try clear hi)) | (go_at_call 10; (with_reducible refine (vname_May.calls ((a0 ++ (⟨#[46, 46]⟩ : ByteArray)) ++ a1) true _ A25.out).mono ?_); rintro e w29 ⟨rfl, hb⟩; have n0_ := Aside0.mk (below_step (by repeat (first | (with_reducible first | exact HB.out | apply below_alloc | apply pw_below_drewN | apply below_drew1) | exact HB.out)) hb); clear HB; have HB := n0_; clear n0_; (try clear hb); (try clear hb2); (try clear hk); (try clear hi)))
                          go_ret
                          exact ⟨by first | rfl | (simp [errW_none, errW_some] <;> rfl) | (simp [*, errW_none, errW_some] <;> rfl), by repeat (first | (with_reducible first | exact HB.out | apply below_alloc | apply pw_below_drewN | apply below_drew1) | exact HB.out)⟩
                        · replace c26 := Bool.eq_false_iff.mpr c26
                          subst c26
                          have H1 : (if 1 + a0.size ≤ 9223372036854775807 then ((vname_May.f ((⟨#[46]⟩ : ByteArray) ++ a0)).bind fun t187 => (if t187 = true then (some false) else ((vname_May.f (a0 ++ (⟨#[46]⟩ : ByteArray))).bind fun t188 => (if t188 = true then (some false) else ((vname_Bad.f (a0 ++ (⟨#[46, 46]⟩ : ByteArray))).bind fun t189 => (some (t189 == (wrap64 ((a0.size : Int) + 1))))))))) else (none)) = some r := by rw [if_neg (show ¬ (false = true) by decide)] at H; exact H
                          clear H
                          have H := H1
                          clear H1
                          by_cases c30 : 1 + a0.size ≤ 9223372036854775807
                          · rw [if_pos c30] at H
                            have c30b0 := eq_true c30
                            have c30b1 : decide (1 + a0.size ≤ 9223372036854775807) = true := decide_eq_true c30
                            try have c30b2 : (9223372036854775807 < 1 + a0.size) = False := eq_false (Nat.not_lt.2 c30)
                            replace H := Option.bind_eq_some_iff.mp H
                            obtain ⟨t187, A310, H⟩ := H
                            replace H : (if t187 = true then (some false) else ((vname_May.f (a0 ++ (⟨#[46]⟩ : ByteArray))).bind fun t188 => (if t188 = true then (some false) else ((vname_Bad.f (a0 ++ (⟨#[46, 46]⟩ : ByteArray))).bind fun t189 => (some (t189 == (wrap64 ((a0.size : Int) + 1)))))))) = some r := H
                            have A31 := Aside0.mk A310
                            clear A310
                            by_cases c32 : t187 = true
                            · subst c32
                              have H1 : (some false) = some r := by rw [if_pos rfl] at H; exact H
                              clear H
                              have H := H1
                              clear H1
                              obtain rfl := Option.some.inj H
                              go_wp2_with (first | (go_at_call 10; (with_reducible refine (vname_May.calls (a0 ++ a1) true _ A17.out).mono ?_); rintro e w33 ⟨rfl, hb⟩; have n0_ := Aside0.mk (below_step (by repeat (first | (with_reducible first | exact HB.out | apply below_alloc | apply pw_below_drewN | apply below_drew1) | exact HB.out)) hb); clear HB; have HB := n0_; clear n0_; (try clear hb); (try clear hb2); (try clear hk); (try clear hi)) | (go_at_call 10; (with_reducible refine (vname_May.calls ((a0 ++ (⟨#[46]⟩ : ByteArray)) ++ a1) true _ A21.out).mono ?_); rintro e w34 ⟨rfl, hb⟩; have n0_ := Aside0.mk (below_step (by repeat (first | (with_reducible first | exact HB.out | apply below_alloc | apply pw_below_drewN | apply below_drew1) | exact HB.out)) hb); clear HB; have HB := n0_; clear n0_; (try clear hb); (try clear hb2); (try clear hk); (try clear hi)) | (go_at_call 10; (with_reducible refine (vname_May.calls ((a0 ++ (⟨#[46, 46]⟩ : ByteArray)) ++ a1) false _ A25.out).mono ?_); rintro e w35 ⟨rfl, hb⟩; have n0_ := Aside0.mk (below_step (by repeat (first | (with_reducible first | exact HB.out | apply below_alloc | apply pw_below_drewN | apply below_drew1) | exact HB.out)) hb); clear HB; have HB := n0_; clear n0_; (try clear hb); (try clear hb2); (try clear hk); (try clear hi)) | (go_at_call 10; (with_reducible refine (vname_May.calls ((⟨#[46]⟩ : ByteArray) ++ a0) true _ A31.out).mono ?_); rintro e w36 ⟨rfl, hb⟩; have n0_ := Aside0.mk (below_step (by repeat (first | (with_reducible first | exact HB.out | apply below_alloc | apply pw_below_drewN | apply below_drew1) | exact HB.out)) hb); clear HB; have HB := n0_; clear n0_; (try clear hb); (try clear hb2); (try clear hk); (try clear hi)))
                              go_ret
                              exact ⟨by first | rfl | (simp [errW_none, errW_some] <;> rfl) | (simp [*, errW_none, errW_some] <;> rfl), by repeat (first | (with_reducible first | exact HB.out | apply below_alloc | apply pw_below_drewN | apply below_drew1) | exact HB.out)⟩
                            · replace c32 := Bool.eq_false_iff.mpr c32
                              subst c32
                              have H1 : ((vname_May.f (a0 ++ (⟨#[46]⟩ : ByteArray))).bind fun t188 => (if t188 = true then (some false) else ((vname_Bad.f (a0 ++ (⟨#[46, 46]⟩ : ByteArray))).bind fun t189 => (some (t189 == (wrap64 ((a0.size : Int) + 1))))))) = some r := by rw [if_neg (show ¬ (false = true) by decide)] at H; exact H
                              clear H
                              have H := H1
                              clear H1
                              replace H := Option.bind_eq_some_iff.mp H
                              obtain ⟨t188, A370, H⟩ := H
                              replace H : (if t188 = true then (some false) else ((vname_Bad.f (a0 ++ (⟨#[46, 46]⟩ : ByteArray))).bind fun t189 => (some (t189 == (wrap64 ((a0.size : Int) + 1)))))) = some r := H
                              have A37 := Aside0.mk A370
                              clear A370
                              by_cases c38 : t188 = true
                              · subst c38
                                have H1 : (some false) = some r := by rw [if_pos rfl] at H; exact H
                                clear H
                                have H := H1
                                clear H1
                                obtain rfl := Option.some.inj H
                                go_wp2_with (first | (go_at_call 10; (with_reducible refine (vname_May.calls (a0 ++ a1) true _ A17.out).mono ?_); rintro e w39 ⟨rfl, hb⟩; have n0_ := Aside0.mk (below_step (by repeat (first | (with_reducible first | exact HB.out | apply below_alloc | apply pw_below_drewN | apply below_drew1) | exact HB.out)) hb); clear HB; have HB := n0_; clear n0_; (try clear hb); (try clear hb2); (try clear hk); (try clear hi)) | (go_at_call 10; (with_reducible refine (vname_May.calls ((a0 ++ (⟨#[46]⟩ : ByteArray)) ++ a1) true _ A21.out).mono ?_); rintro e w40 ⟨rfl, hb⟩; have n0_ := Aside0.mk (below_step (by repeat (first | (with_reducible first | exact HB.out | apply below_alloc | apply pw_below_drewN | apply below_drew1) | exact HB.out)) hb); clear HB; have HB := n0_; clear n0_; (try clear hb); (try clear hb2); (try clear hk); (try clear hi)) | (go_at_call 10; (with_reducible refine (vname_May.calls ((a0 ++ (⟨#[46, 46]⟩ : ByteArray)) ++ a1) false _ A25.out).mono ?_); rintro e w41 ⟨rfl, hb⟩; have n0_ := Aside0.mk (below_step (by repeat (first | (with_reducible first | exact HB.out | apply below_alloc | apply pw_below_drewN | apply below_drew1) | exact HB.out)) hb); clear HB; have HB := n0_; clear n0_; (try clear hb); (try clear hb2); (try clear hk); (try clear hi)) | (go_at_call 10; (with_reducible refine (vname_May.calls ((⟨#[46]⟩ : ByteArray) ++ a0) false _ A31.out).mono ?_); rintro e w42 ⟨rfl, hb⟩; have n0_ := Aside0.mk (below_step (by repeat (first | (with_reducible first | exact HB.out | apply below_alloc | apply pw_below_drewN | apply below_drew1) | exact HB.out)) hb); clear HB; have HB := n0_; clear n0_; (try clear hb); (try clear hb2); (try clear hk); (try clear hi)) | (go_at_call 10; (with_reducible refine (vname_May.calls (a0 ++ (⟨#[46]⟩ : ByteArray)) true _ A37.out).mono ?_); rintro e w43 ⟨rfl, hb⟩; have n0_ := Aside0.mk (below_step (by repeat (first | (with_reducible first | exact HB.out | apply below_alloc | apply pw_below_drewN | apply below_drew1) | exact HB.out)) hb); clear HB; have HB := n0_; clear n0_; (try clear hb); (try clear hb2); (try clear hk); (try clear hi)))
                                go_ret
                                exact ⟨by first | rfl | (simp [errW_none, errW_some] <;> rfl) | (simp [*, errW_none, errW_some] <;> rfl), by repeat (first | (with_reducible first | exact HB.out | apply below_alloc | apply pw_below_drewN | apply below_drew1) | exact HB.out)⟩
                              · replace c38 := Bool.eq_false_iff.mpr c38
                                subst c38
                                have H1 : ((vname_Bad.f (a0 ++ (⟨#[46, 46]⟩ : ByteArray))).bind fun t189 => (some (t189 == (wrap64 ((a0.size : Int) + 1))))) = some r := by rw [if_neg (show ¬ (false = true) by decide)] at H; exact H
                                clear H
                                have H := H1
                                clear H1
                                replace H := Option.bind_eq_some_iff.mp H
                                obtain ⟨t189, A440, H⟩ := H
                                replace H : (some (t189 == (wrap64 ((a0.size : Int) + 1)))) = some r := H
                                have A44 := Aside0.mk A440
                                clear A440
                                obtain rfl := Option.some.inj H
                                go_wp2_with (first | (go_at_call 10; (with_reducible refine (vname_May.calls (a0 ++ a1) true _ A17.out).mono ?_); rintro e w45 ⟨rfl, hb⟩; have n0_ := Aside0.mk (below_step (by repeat (first | (with_reducible first | exact HB.out | apply below_alloc | apply pw_below_drewN | apply below_drew1) | exact HB.out)) hb); clear HB; have HB := n0_; clear n0_; (try clear hb); (try clear hb2); (try clear hk); (try clear hi)) | (go_at_call 10; (with_reducible refine (vname_May.calls ((a0 ++ (⟨#[46]⟩ : ByteArray)) ++ a1) true _ A21.out).mono ?_); rintro e w46 ⟨rfl, hb⟩; have n0_ := Aside0.mk (below_step (by repeat (first | (with_reducible first | exact HB.out | apply below_alloc | apply pw_below_drewN | apply below_drew1) | exact HB.out)) hb); clear HB; have HB := n0_; clear n0_; (try clear hb); (try clear hb2); (try clear hk); (try clear hi)) | (go_at_call 10; (with_reducible refine (vname_May.calls ((a0 ++ (⟨#[46, 46]⟩ : ByteArray)) ++ a1) false _ A25.out).mono ?_); rintro e w47 ⟨rfl, hb⟩; have n0_ := Aside0.mk (below_step (by repeat (first | (with_reducible first | exact HB.out | apply below_alloc | apply pw_below_drewN | apply below_drew1) | exact HB.out)) hb); clear HB; have HB := n0_; clear n0_; (try clear hb); (try clear hb2); (try clear hk); (try clear hi)) | (go_at_call 10; (with_reducible refine (vname_May.calls ((⟨#[46]⟩ : ByteArray) ++ a0) false _ A31.out).mono ?_); rintro e w48 ⟨rfl, hb⟩; have n0_ := Aside0.mk (below_step (by repeat (first | (with_reducible first | exact HB.out | apply below_alloc | apply pw_below_drewN | apply below_drew1) | exact HB.out)) hb); clear HB; have HB := n0_; clear n0_; (try clear hb); (try clear hb2); (try clear hk); (try clear hi)) | (go_at_call 10; (with_reducible refine (vname_May.calls (a0 ++ (⟨#[46]⟩ : ByteArray)) false _ A37.out).mono ?_); rintro e w49 ⟨rfl, hb⟩; have n0_ := Aside0.mk (below_step (by repeat (first | (with_reducible first | exact HB.out | apply below_alloc | apply pw_below_drewN | apply below_drew1) | exact HB.out)) hb); clear HB; have HB := n0_; clear n0_; (try clear hb); (try clear hb2); (try clear hk); (try clear hi)) | (go_at_call 13; (with_reducible refine (vname_Bad.calls (a0 ++ (⟨#[46, 46]⟩ : ByteArray)) t189 _ A44.out).mono ?_); rintro e w50 ⟨rfl, hb⟩; have n0_ := Aside0.mk (below_step (by repeat (first | (with_reducible first | exact HB.out | apply below_alloc | apply pw_below_drewN | apply below_drew1) | exact HB.out)) hb); clear HB; have HB := n0_; clear n0_; (try clear hb); (try clear hb2); (try clear hk); (try clear hi)))
                                go_ret
                                exact ⟨by first | (rw [show wrap64 ((a0.size : Int) + 1) = (a0.size : Int) + 1 from by unfold wrap64; omega]; rfl) | rfl | (simp [errW_none, errW_some] <;> rfl) | (simp [*, errW_none, errW_some] <;> rfl), by repeat (first | (with_reducible first | exact HB.out | apply below_alloc | apply pw_below_drewN | apply below_drew1) | exact HB.out)⟩
                          · rw [if_neg c30] at H
                            exact absurd H (by simp)
                      · rw [if_neg c24] at H
                        exact absurd H (by simp)
                    · rw [if_neg c23] at H
                      exact absurd H (by simp)
                  · replace c22 := Bool.eq_false_iff.mpr c22
                    subst c22
                    have H1 : (some false) = some r := by rw [if_neg (show ¬ (false = true) by decide)] at H; exact H
                    clear H
                    have H := H1
                    clear H1
                    obtain rfl := Option.some.inj H
                    go_wp2_with (first | (go_at_call 10; (with_reducible refine (vname_May.calls (a0 ++ a1) true _ A17.out).mono ?_); rintro e w51 ⟨rfl, hb⟩; have n0_ := Aside0.mk (below_step (by repeat (first | (with_reducible first | exact HB.out | apply below_alloc | apply pw_below_drewN | apply below_drew1) | exact HB.out)) hb); clear HB; have HB := n0_; clear n0_; (try clear hb); (try clear hb2); (try clear hk); (try clear hi)) | (go_at_call 10; (with_reducible refine (vname_May.calls ((a0 ++ (⟨#[46]⟩ : ByteArray)) ++ a1) false _ A21.out).mono ?_); rintro e w52 ⟨rfl, hb⟩; have n0_ := Aside0.mk (below_step (by repeat (first | (with_reducible first | exact HB.out | apply below_alloc | apply pw_below_drewN | apply below_drew1) | exact HB.out)) hb); clear HB; have HB := n0_; clear n0_; (try clear hb); (try clear hb2); (try clear hk); (try clear hi)))
                    go_ret
                    exact ⟨by first | rfl | (simp [errW_none, errW_some] <;> rfl) | (simp [*, errW_none, errW_some] <;> rfl), by repeat (first | (with_reducible first | exact HB.out | apply below_alloc | apply pw_below_drewN | apply below_drew1) | exact HB.out)⟩
                · rw [if_neg c20] at H
                  exact absurd H (by simp)
              · rw [if_neg c19] at H
                exact absurd H (by simp)
            · replace c18 := Bool.eq_false_iff.mpr c18
              subst c18
              have H1 : (some false) = some r := by rw [if_neg (show ¬ (false = true) by decide)] at H; exact H
              clear H
              have H := H1
              clear H1
              obtain rfl := Option.some.inj H
              go_wp2_with (first | (go_at_call 10; (with_reducible refine (vname_May.calls (a0 ++ a1) false _ A17.out).mono ?_); rintro e w53 ⟨rfl, hb⟩; have n0_ := Aside0.mk (below_step (by repeat (first | (with_reducible first | exact HB.out | apply below_alloc | apply pw_below_drewN | apply below_drew1) | exact HB.out)) hb); clear HB; have HB := n0_; clear n0_; (try clear hb); (try clear hb2); (try clear hk); (try clear hi)))
              go_ret
              exact ⟨by first | rfl | (simp [errW_none, errW_some] <;> rfl) | (simp [*, errW_none, errW_some] <;> rfl), by repeat (first | (with_reducible first | exact HB.out | apply below_alloc | apply pw_below_drewN | apply below_drew1) | exact HB.out)⟩
          · rw [if_neg c16] at H
            exact absurd H (by simp)
        · replace c15 := Bool.eq_false_iff.mpr c15
          subst c15
          have H1 : (some false) = some r := by rw [if_neg (show ¬ (false = true) by decide)] at H; exact H
          clear H
          have H := H1
          clear H1
          obtain rfl := Option.some.inj H
          go_wp2
          go_ret
          exact ⟨by first | rfl | (simp [errW_none, errW_some] <;> rfl) | (simp [*, errW_none, errW_some] <;> rfl), by repeat (first | (with_reducible first | exact HB.out | apply below_alloc | apply pw_below_drewN | apply below_drew1) | exact HB.out)⟩

/-- THE ONE PURE STATEMENT of phalaropelaw05_VnameJoins: yours. -/
def phalaropelaw05_VnameJoins.Pure : Prop := ∀ (a0 : ByteArray) (a1 : ByteArray), a0.size ≤ 140737488351232 → a1.size ≤ 140737488351232 → ∃ k, phalaropelaw05_VnameJoins.f k a0 a1 = some true
theorem phalaropelaw05_VnameJoins.walk (P : phalaropelaw05_VnameJoins.Pure) (a0 : ByteArray) (a1 : ByteArray) (w : World) (w0 : a0.size ≤ 140737488351232) (w1 : a1.size ≤ 140737488351232) :
    Calls Tryd.prog 6 #[.string a0, .string a1] w fun e w' => e = .returned (.bool true) ∧ Below w.heap.size w w' := by
  obtain ⟨k, h⟩ := P a0 a1 w0 w1
  refine (phalaropelaw05_VnameJoins.calls k a0 a1 true w h).mono ?_
  rintro e w' ⟨rfl, hd⟩
  exact ⟨rfl, hd⟩

end Go.Proofs.YtmondgamackcgaaDoor.PVn
