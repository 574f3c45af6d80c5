/- The walk of law08.ValueOnly: the print of a stand-in without the stores of x.L and x.P; these put back. -/
import Derived.Test.YtjjmfmlgemdjkaaVPValx0
import Derived.Test.YtjjmfmlgemdjkaaVPValx2
import Derived.Test.YtjjmfmlgemdjkaaVPValx4
import Derived.Test.YtjjmfmlgemdjkaaVPValx6
import Derived.Test.YtjjmfmlgemdjkaaVPValx7
import Derived.Test.YtjjmfmlgemdjkaaVPValx11
namespace Go.Proofs.Ytjjmfmlgemdjkaa.PVal
open Go.RowKit Go.Proofs.YtjjmfmlgemdjkaaW.PrintWords Go.Proofs.YtjjmfmlgemdjkaaW.PrintLast Go.Proofs.YtjjmfmlgemdjkaaW.PrintMore
attribute [local go_sem] max2_int min2_int max_two min_two max_three min_three max_four min_four   -- for this text's walks alone
set_option linter.unusedVariables false
set_option linter.unusedSimpArgs false

mutual
def phalaropelaw08_ValueOnly.j0 : Nat → Bool → Bool → Int → ByteArray → List ByteArray → List (S76) → Int → ByteArray → List ByteArray → List (S76) → Option (Bool)
  | 0, _, _, _, _, _, _, _, _, _, _ => none
  | k + 1, x5, x15, x503000, x503001, x503002, x503003, x504000, x504001, x504002, x504003 => if x15 = true then (some x5) else (if x503000 = 1 then (phalaropelaw08_ValueOnly.j1 k x5 x503000 x503001 x503002 x503003 x503000 x503001 x504002 x504003) else (if x503000 = 2 then (phalaropelaw08_ValueOnly.j1 k x5 x503000 x503001 x503002 x503003 x503000 x504001 x503002 x504003) else (if x503000 = 3 then (phalaropelaw08_ValueOnly.j1 k x5 x503000 x503001 x503002 x503003 x503000 x504001 x504002 x503003) else (phalaropelaw08_ValueOnly.j1 k x5 x503000 x503001 x503002 x503003 x503000 x504001 x504002 x504003))))
def phalaropelaw08_ValueOnly.j1 : Nat → Bool → Int → ByteArray → List ByteArray → List (S76) → Int → ByteArray → List ByteArray → List (S76) → Option (Bool)
  | 0, _, _, _, _, _, _, _, _, _ => none
  | k + 1, x5, x503000, x503001, x503002, x503003, x508000, x508001, x508002, x508003 => if x5 = true then ((value_Same.f k x503000 x503001 x503002 x503003 x508000 x508001 x508002 x508003).bind fun t508 => (if t508 = true then ((value_Defined.f k x503000 x503001 x503002 x503003).bind fun t509 => ((value_Defined.f k x508000 x508001 x508002 x508003).bind fun t510 => (if (t509 == t510) = true then ((value_Valid.f x503000 x503001 x503002 x503003).bind fun t511 => ((value_Valid.f x508000 x508001 x508002 x508003).bind fun t512 => (if (t511 == t512) = true then ((value_Texts.f k x503000 x503001 x503002 x503003).bind fun t513 => ((value_Texts.f k x508000 x508001 x508002 x508003).bind fun t516 => ((phalaroperef05_Texts.f k t513 t516).bind fun t519 => (some t519)))) else (some false)))) else (some false)))) else (some false))) else (some false)
end
def phalaropelaw08_ValueOnly.f (k : Nat) (a0_0 : Int) (a0_1 : ByteArray) (l0_2 : List ByteArray) (l0_3 : List (S76)) (a1_0 : Int) (a1_1 : ByteArray) (l1_2 : List ByteArray) (l1_3 : List (S76)) : Option (Bool) := (phalaropelaw08_awake.f k).bind fun t504 => ((phalaroperef08_Few.f k a0_0 a0_1 l0_2 l0_3).bind fun t505 => (if t505 = true then ((phalaroperef08_Few.f k a1_0 a1_1 l1_2 l1_3).bind fun t506 => (phalaropelaw08_ValueOnly.j0 k t504 (!t506) a0_0 a0_1 l0_2 l0_3 a1_0 a1_1 l1_2 l1_3)) else (phalaropelaw08_ValueOnly.j0 k t504 true a0_0 a0_1 l0_2 l0_3 a1_0 a1_1 l1_2 l1_3)))
def phalaropelaw08_ValueOnly.T13 : Bool × List (List Nat × List Nat) := (true, [([], []), ([0], [0]), ([1], [1]), ([1], [1]), ([2, 3, 1, 1], [1, 2, 3]), ([1, 4], [1, 4]), ([5, 4], [5]), ([6], [6]), ([7, 6, 6], [6, 7]), ([6], [6]), ([9, 8, 6], [6, 9]), ([8, 10, 6], [6, 8, 10]), ([6, 11], [6, 11]), ([12, 10], [12]), ([13], [13]), ([14, 13, 13], [13, 14]), ([13], [13]), ([16, 15, 13], [13, 16]), ([15, 17, 13], [13, 15, 17]), ([13, 18], [13, 18]), ([19, 17], [19]), ([20], [20]), ([21, 20, 20], [20, 21]), ([20], [20]), ([23, 22, 20], [20, 23]), ([22, 24, 24, 20], [20, 22, 24]), ([20, 25], [20, 25]), ([26, 25, 0, 1, 2, 3, 4, 5, 6, 7, 8, 9, 10, 11, 12, 13, 14, 15, 16, 17, 18, 19, 20, 21, 22, 23, 24, 25, 26], [26])])
def phalaropelaw08_ValueOnly.B13 : List Nat := [0, 1, 3, 3, 15, 31, 63, 127, 255, 127, 1023, 2047, 4095, 8191, 16383, 32767, 16383, 131071, 262143, 524287, 1048575, 2097151, 4194303, 2097151, 16777215, 33554431, 67108863, 134217727]
theorem phalaropelaw08_ValueOnly.tab13 : rtab .any (opsOf Try.f20 13) = phalaropelaw08_ValueOnly.T13 := by kernel_rfl
theorem phalaropelaw08_ValueOnly.bits13 : waitsOk phalaropelaw08_ValueOnly.T13.2 phalaropelaw08_ValueOnly.B13 = true := by kernel_rfl
set_option maxHeartbeats 8000000 in
set_option maxRecDepth 100000 in
theorem phalaropelaw08_ValueOnly.calls (k : Nat) (a0_0 : Int) (a0_1 : ByteArray) (A0_2 : Option Addr) (c0_2 : Nat) (l0_2 : List ByteArray) (A0_3 : Option Addr) (c0_3 : Nat) (l0_3 : List (S76)) (a1_0 : Int) (a1_1 : ByteArray) (A1_2 : Option Addr) (c1_2 : Nat) (l1_2 : List ByteArray) (A1_3 : Option Addr) (c1_3 : Nat) (l1_3 : List (S76)) (r : Bool) (w : World) (hr0_2 : Kd.C Kd.string w A0_2 l0_2.length l0_2) (hc0_2 : l0_2.length ≤ c0_2) (hr0_3 : Kd.C k76 w A0_3 l0_3.length l0_3) (hc0_3 : l0_3.length ≤ c0_3) (hr1_2 : Kd.C Kd.string w A1_2 l1_2.length l1_2) (hc1_2 : l1_2.length ≤ c1_2) (hr1_3 : Kd.C k76 w A1_3 l1_3.length l1_3) (hc1_3 : l1_3.length ≤ c1_3) (h : phalaropelaw08_ValueOnly.f k a0_0 a0_1 l0_2 l0_3 a1_0 a1_1 l1_2 l1_3 = some r) (hrt : r = true) :
    Calls Try.prog 20 #[.agg #[.int .i64 a0_0, .string a0_1, .slice A0_2 l0_2.length c0_2, .slice A0_3 l0_3.length c0_3], .agg #[.int .i64 a1_0, .string a1_1, .slice A1_2 l1_2.length c1_2, .slice A1_3 l1_3.length c1_3]] w fun e w' => e = .returned (.bool r) ∧ Below w.heap.size w w' := by
  have HRT := Aside0.mk hrt
  clear hrt
  have hu52 := Try.underlying52
  have HR0_2 := Aside0.mk hr0_2
  have HC0_2 := Aside0.mk hc0_2
  clear hr0_2 hc0_2
  have HR0_3 := Aside0.mk hr0_3
  have HC0_3 := Aside0.mk hc0_3
  clear hr0_3 hc0_3
  have HR1_2 := Aside0.mk hr1_2
  have HC1_2 := Aside0.mk hc1_2
  clear hr1_2 hc1_2
  have HR1_3 := Aside0.mk hr1_3
  have HC1_3 := Aside0.mk hc1_3
  clear hr1_3 hc1_3
  have HB := Aside0.mk (Below.refl w.heap.size w)
  have H : ((phalaropelaw08_awake.f k).bind fun t504 => ((phalaroperef08_Few.f k a0_0 a0_1 l0_2 l0_3).bind fun t505 => (if t505 = true then ((phalaroperef08_Few.f k a1_0 a1_1 l1_2 l1_3).bind fun t506 => (phalaropelaw08_ValueOnly.j0 k t504 (!t506) a0_0 a0_1 l0_2 l0_3 a1_0 a1_1 l1_2 l1_3)) else (phalaropelaw08_ValueOnly.j0 k t504 true a0_0 a0_1 l0_2 l0_3 a1_0 a1_1 l1_2 l1_3)))) = some r := h
  clear h
  replace H := Option.bind_eq_some_iff.mp H
  obtain ⟨t504, A30, H⟩ := H
  replace H : ((phalaroperef08_Few.f k a0_0 a0_1 l0_2 l0_3).bind fun t505 => (if t505 = true then ((phalaroperef08_Few.f k a1_0 a1_1 l1_2 l1_3).bind fun t506 => (phalaropelaw08_ValueOnly.j0 k t504 (!t506) a0_0 a0_1 l0_2 l0_3 a1_0 a1_1 l1_2 l1_3)) else (phalaropelaw08_ValueOnly.j0 k t504 true a0_0 a0_1 l0_2 l0_3 a1_0 a1_1 l1_2 l1_3))) = some r := H
  have A3 := Aside0.mk A30
  clear A30
  have HC4 := Aside0.mk H
  clear H
  go_enter Try.func20, Try.ntmps20
  go_upto_region 2 with (first | ((with_reducible refine gate_dst (N := 2) rfl ?_); refine box_event ?hg (N := 2) ?hd (cs := #[.int .i64 a0_0, .string a0_1, .slice A0_2 l0_2.length c0_2, .slice A0_3 l0_3.length c0_3]) (t := 52) ?hr ?_; (case hd => rfl); (case hg => rfl); (case hr => first | (go_simp; done) | (go_simp; rfl)); intro gb502 hg w5 hbox hb; have n0_ := Aside0.mk (below_step (by repeat (first | (with_reducible first | exact HB.out | apply below_alloc | apply pw_below_drewN | apply below_drew1) | exact HB.out)) hb); have n1_ := Aside0.mk (hbox); have n2_ := Aside0.mk ((by rw [hg]; exact (below_size (by repeat (first | (with_reducible first | exact HB.out | apply below_alloc | apply pw_below_drewN | apply below_drew1) | exact HB.out))) : w.heap.size ≤ gb502)); have n3_ := Aside0.mk ((by rw [hg]; exact (below_size (by repeat (first | (with_reducible first | exact HB.out | apply below_alloc | apply pw_below_drewN | apply below_drew1) | exact HB.out))) : w.heap.size ≤ gb502)); clear HB; have HB := n0_; have BK502 := n1_; have GW502 := n2_; have GE502 := n3_; clear n0_ n1_ n2_ n3_; clear hb hbox hg) | ((with_reducible refine gate_dst (N := 3) rfl ?_); refine box_event ?hg (N := 3) ?hd (cs := #[.int .i64 a1_0, .string a1_1, .slice A1_2 l1_2.length c1_2, .slice A1_3 l1_3.length c1_3]) (t := 52) ?hr ?_; (case hd => rfl); (case hg => rfl); (case hr => first | (go_simp; done) | (go_simp; rfl)); intro gb503 hg w6 hbox hb; have n0_ := Aside0.mk (blk_below (g := gb502) (o := .cells #[.int .i64 a0_0, .string a0_1, .slice A0_2 l0_2.length c0_2, .slice A0_3 l0_3.length c0_3] 52 (0, 0)) (by (with_reducible repeat (first | refine blk_drewN ?_ _ | refine blk_drew ?_ | refine blk_alloc ?_ _)); exact BK502.out) hb); have n1_ := Aside0.mk (below_step (by repeat (first | (with_reducible first | exact HB.out | apply below_alloc | apply pw_below_drewN | apply below_drew1 | refine below_set ?_ GE502.out) | exact HB.out)) hb); have n2_ := Aside0.mk (hbox); have n3_ := Aside0.mk ((by rw [hg]; exact (below_size (by repeat (first | (with_reducible first | exact HB.out | apply below_alloc | apply pw_below_drewN | apply below_drew1 | refine below_set ?_ GE502.out) | exact HB.out))) : w.heap.size ≤ gb503)); have n4_ := Aside0.mk ((by rw [hg]; exact (below_size (by repeat (first | (with_reducible first | exact HB.out | apply below_alloc | apply pw_below_drewN | apply below_drew1 | refine below_set ?_ GE502.out) | exact HB.out))) : w.heap.size ≤ gb503)); have n5_ := Aside0.mk ((by rw [hg]; exact Nat.ne_of_lt (blk_lt (g := gb502) (o := .cells #[.int .i64 a0_0, .string a0_1, .slice A0_2 l0_2.length c0_2, .slice A0_3 l0_3.length c0_3] 52 (0, 0)) (by (with_reducible repeat (first | refine blk_drewN ?_ _ | refine blk_drew ?_ | refine blk_alloc ?_ _)); exact BK502.out)) : gb502 ≠ gb503)); have n6_ := Aside0.mk ((by rw [hg]; exact Nat.ne_of_gt (blk_lt (g := gb502) (o := .cells #[.int .i64 a0_0, .string a0_1, .slice A0_2 l0_2.length c0_2, .slice A0_3 l0_3.length c0_3] 52 (0, 0)) (by (with_reducible repeat (first | refine blk_drewN ?_ _ | refine blk_drew ?_ | refine blk_alloc ?_ _)); exact BK502.out)) : gb503 ≠ gb502)); clear BK502; clear HB; have BK502 := n0_; have HB := n1_; have BK503 := n2_; have GW503 := n3_; have GE503 := n4_; have NB502_503 := n5_; have NB503_502 := n6_; clear n0_ n1_ n2_ n3_ n4_ n5_ n6_; clear hb hbox hg) | ((with_reducible refine gate_callee (f := 43) rfl ?_); refine goesL_ (some 7) rfl rfl Try.func43 (by kernel_rfl) rfl #[] rfl (by (try simp only [List.map_toArray, List.map_cons, List.map_nil]); first | done | rfl | (simp only [List.length_drop, List.length_take]; rfl)) ?_; (with_reducible refine (phalaropelaw08_awake.calls k  t504 _ A3.out).mono ?_); rintro e w7 ⟨rfl, hb⟩; refine ⟨_, rfl, ?_⟩; have n0_ := Aside0.mk (blk_below (g := gb502) (o := .cells #[.int .i64 a0_0, .string a0_1, .slice A0_2 l0_2.length c0_2, .slice A0_3 l0_3.length c0_3] 52 (0, 0)) (by (with_reducible repeat (first | refine blk_drewN ?_ _ | refine blk_drew ?_ | refine blk_alloc ?_ _)); exact BK502.out) hb); have n1_ := Aside0.mk (blk_below (g := gb503) (o := .cells #[.int .i64 a1_0, .string a1_1, .slice A1_2 l1_2.length c1_2, .slice A1_3 l1_3.length c1_3] 52 (0, 0)) (by (with_reducible repeat (first | refine blk_drewN ?_ _ | refine blk_drew ?_ | refine blk_alloc ?_ _)); exact BK503.out) hb); have n2_ := Aside0.mk (below_step (by repeat (first | (with_reducible first | exact HB.out | apply below_alloc | apply pw_below_drewN | apply below_drew1 | refine below_set ?_ GE502.out | refine below_set ?_ GE503.out) | exact HB.out)) hb); clear BK502; clear BK503; clear HB; have BK502 := n0_; have BK503 := n1_; have HB := n2_; clear n0_ n1_ n2_; (try clear hb); (try clear hb2); (try clear hk); (try clear hi)))
  (try simp only [Act.put, List.setIfInBounds_toArray, List.set_cons_zero, List.set_cons_succ])
  go_cut [15] (fun v15 wc => ∃ (kq : Nat) (x15_3 : Bool), v15 = .bool x15_3 ∧ Aside0 (phalaropelaw08_ValueOnly.j0 kq t504 x15_3 a0_0 a0_1 l0_2 l0_3 a1_0 a1_1 l1_2 l1_3 = some r) ∧ Aside0 (kq ≤ k) ∧ Aside0 (wc.heap[gb502]? = some (.cells #[.int .i64 a0_0, .string a0_1, (.slice A0_2 l0_2.length c0_2), (.slice A0_3 l0_3.length c0_3)] 52 (0, 0))) ∧ Aside0 (wc.heap[gb503]? = some (.cells #[.int .i64 a1_0, .string a1_1, (.slice A1_2 l1_2.length c1_2), (.slice A1_3 l1_3.length c1_3)] 52 (0, 0))) ∧ Aside0 (Below w.heap.size w wc))
  case first =>
    have H := HC4.out
    clear HC4
    replace H := Option.bind_eq_some_iff.mp H
    obtain ⟨t505, A80, H⟩ := H
    replace H : (if t505 = true then ((phalaroperef08_Few.f k a1_0 a1_1 l1_2 l1_3).bind fun t506 => (phalaropelaw08_ValueOnly.j0 k t504 (!t506) a0_0 a0_1 l0_2 l0_3 a1_0 a1_1 l1_2 l1_3)) else (phalaropelaw08_ValueOnly.j0 k t504 true a0_0 a0_1 l0_2 l0_3 a1_0 a1_1 l1_2 l1_3)) = some r := H
    have A8 := Aside0.mk A80
    clear A80
    by_cases c9 : t505 = true
    · subst c9
      have H1 : ((phalaroperef08_Few.f k a1_0 a1_1 l1_2 l1_3).bind fun t506 => (phalaropelaw08_ValueOnly.j0 k t504 (!t506) a0_0 a0_1 l0_2 l0_3 a1_0 a1_1 l1_2 l1_3)) = some r := by rw [if_pos rfl] at H; exact H
      clear H
      have H := H1
      clear H1
      replace H := Option.bind_eq_some_iff.mp H
      obtain ⟨t506, A100, H⟩ := H
      replace H : (phalaropelaw08_ValueOnly.j0 k t504 (!t506) a0_0 a0_1 l0_2 l0_3 a1_0 a1_1 l1_2 l1_3) = some r := H
      have A10 := Aside0.mk A100
      clear A100
      have H' := Aside0.mk H
      clear H
      have hnb11 := NB502_503.out
      have hnc11 := NB503_502.out
      have hcz12_0 : w7.cell? ⟨gb502, 0, none⟩ = some (.int .i64 a0_0) := (blk_cell BK502.out 0).trans rfl
      have hcz12_1 : w7.cell? ⟨gb502, 1, none⟩ = some (.string a0_1) := (blk_cell BK502.out 1).trans rfl
      have hcz12_2 : w7.cell? ⟨gb502, 2, none⟩ = some (.slice A0_2 l0_2.length c0_2) := (blk_cell BK502.out 2).trans rfl
      have hcz12_3 : w7.cell? ⟨gb502, 3, none⟩ = some (.slice A0_3 l0_3.length c0_3) := (blk_cell BK502.out 3).trans rfl
      have hfz12_0 := blk_frozen BK502.out 0
      have hfz12_1 := blk_frozen BK502.out 1
      have hfz12_2 := blk_frozen BK502.out 2
      have hfz12_3 := blk_frozen BK502.out 3
      go_wp2_with (first | ((with_reducible refine gate_callee (f := 49) rfl ?_); refine goesL_ (some 9) rfl rfl Try.func49 (by kernel_rfl) rfl #[.agg #[.int .i64 a0_0, .string a0_1, .slice A0_2 l0_2.length c0_2, .slice A0_3 l0_3.length c0_3]] rfl (by (try simp only [List.map_toArray, List.map_cons, List.map_nil]); first | done | rfl | (simp only [List.length_drop, List.length_take]; rfl)) ?_; (with_reducible refine (phalaroperef08_Few.calls k a0_0 a0_1 _ _ l0_2 _ _ l0_3 true _ ?side1 ?side2 ?side3 ?side4 A8.out).mono ?_); (case side1 => repeat (first | exact (Kd.C_below HR0_2.out HB.out) | (with_reducible refine Kd.C_alloc ?_ _) | (with_reducible refine Kd.C_drewN ?_ _) | (with_reducible refine Kd.C_drew ?_))); (case side2 => exact HC0_2.out); (case side3 => repeat (first | exact (Kd.C_below HR0_3.out HB.out) | (with_reducible refine Kd.C_alloc ?_ _) | (with_reducible refine Kd.C_drewN ?_ _) | (with_reducible refine Kd.C_drew ?_))); (case side4 => exact HC0_3.out); rintro e w13 ⟨rfl, hb⟩; refine ⟨_, rfl, ?_⟩; have n0_ := Aside0.mk (blk_below (g := gb502) (o := .cells #[.int .i64 a0_0, .string a0_1, .slice A0_2 l0_2.length c0_2, .slice A0_3 l0_3.length c0_3] 52 (0, 0)) (by (with_reducible repeat (first | refine blk_drewN ?_ _ | refine blk_drew ?_ | refine blk_alloc ?_ _)); exact BK502.out) hb); have n1_ := Aside0.mk (blk_below (g := gb503) (o := .cells #[.int .i64 a1_0, .string a1_1, .slice A1_2 l1_2.length c1_2, .slice A1_3 l1_3.length c1_3] 52 (0, 0)) (by (with_reducible repeat (first | refine blk_drewN ?_ _ | refine blk_drew ?_ | refine blk_alloc ?_ _)); exact BK503.out) hb); have n2_ := Aside0.mk (below_step (by repeat (first | (with_reducible first | exact HB.out | apply below_alloc | apply pw_below_drewN | apply below_drew1 | refine below_set ?_ GE502.out | refine below_set ?_ GE503.out) | exact HB.out)) hb); clear BK502; clear BK503; clear HB; have BK502 := n0_; have BK503 := n1_; have HB := n2_; clear n0_ n1_ n2_; (try clear hb); (try clear hb2); (try clear hk); (try clear hi); have hcz14_0 : w13.cell? ⟨gb503, 0, none⟩ = some (.int .i64 a1_0) := (blk_cell BK503.out 0).trans rfl; have hcz14_1 : w13.cell? ⟨gb503, 1, none⟩ = some (.string a1_1) := (blk_cell BK503.out 1).trans rfl; have hcz14_2 : w13.cell? ⟨gb503, 2, none⟩ = some (.slice A1_2 l1_2.length c1_2) := (blk_cell BK503.out 2).trans rfl; have hcz14_3 : w13.cell? ⟨gb503, 3, none⟩ = some (.slice A1_3 l1_3.length c1_3) := (blk_cell BK503.out 3).trans rfl; have hfz14_0 := blk_frozen BK503.out 0; have hfz14_1 := blk_frozen BK503.out 1; have hfz14_2 := blk_frozen BK503.out 2; have hfz14_3 := blk_frozen BK503.out 3) | (go_at_call 49; (with_reducible refine (phalaroperef08_Few.calls k a1_0 a1_1 _ _ l1_2 _ _ l1_3 t506 _ ?side1 ?side2 ?side3 ?side4 A10.out).mono ?_); (case side1 => repeat (first | exact (Kd.C_below HR1_2.out HB.out) | (with_reducible refine Kd.C_alloc ?_ _) | (with_reducible refine Kd.C_drewN ?_ _) | (with_reducible refine Kd.C_drew ?_))); (case side2 => exact HC1_2.out); (case side3 => repeat (first | exact (Kd.C_below HR1_3.out HB.out) | (with_reducible refine Kd.C_alloc ?_ _) | (with_reducible refine Kd.C_drewN ?_ _) | (with_reducible refine Kd.C_drew ?_))); (case side4 => exact HC1_3.out); rintro e w15 ⟨rfl, hb⟩; have n0_ := Aside0.mk (blk_below (g := gb502) (o := .cells #[.int .i64 a0_0, .string a0_1, .slice A0_2 l0_2.length c0_2, .slice A0_3 l0_3.length c0_3] 52 (0, 0)) (by (with_reducible repeat (first | refine blk_drewN ?_ _ | refine blk_drew ?_ | refine blk_alloc ?_ _)); exact BK502.out) hb); have n1_ := Aside0.mk (blk_below (g := gb503) (o := .cells #[.int .i64 a1_0, .string a1_1, .slice A1_2 l1_2.length c1_2, .slice A1_3 l1_3.length c1_3] 52 (0, 0)) (by (with_reducible repeat (first | refine blk_drewN ?_ _ | refine blk_drew ?_ | refine blk_alloc ?_ _)); exact BK503.out) hb); have n2_ := Aside0.mk (below_step (by repeat (first | (with_reducible first | exact HB.out | apply below_alloc | apply pw_below_drewN | apply below_drew1 | refine below_set ?_ GE502.out | refine below_set ?_ GE503.out) | exact HB.out)) hb); clear BK502; clear BK503; clear HB; have BK502 := n0_; have BK503 := n1_; have HB := n2_; clear n0_ n1_ n2_; (try clear hb); (try clear hb2); (try clear hk); (try clear hi)))
      go_meet
      case rel => exact ⟨_, (!t506), (by first | rfl | (simp; done) | (simp [*]; done)), H', ⟨by first | omega | exact Nat.le_refl _⟩, ⟨by (with_reducible repeat (first | refine blk_drewN ?_ _ | refine blk_drew ?_ | refine blk_alloc ?_ _)); exact BK502.out⟩, ⟨by (with_reducible repeat (first | refine blk_drewN ?_ _ | refine blk_drew ?_ | refine blk_alloc ?_ _)); exact BK503.out⟩, ⟨by repeat (first | (with_reducible first | exact HB.out | apply below_alloc | apply pw_below_drewN | apply below_drew1 | refine below_set ?_ GE502.out | refine below_set ?_ GE503.out) | exact HB.out)⟩⟩
    · replace c9 := Bool.eq_false_iff.mpr c9
      subst c9
      have H1 : (phalaropelaw08_ValueOnly.j0 k t504 true a0_0 a0_1 l0_2 l0_3 a1_0 a1_1 l1_2 l1_3) = some r := by rw [if_neg (show ¬ (false = true) by decide)] at H; exact H
      clear H
      have H := H1
      clear H1
      have H' := Aside0.mk H
      clear H
      have hnb16 := NB502_503.out
      have hnc16 := NB503_502.out
      have hcz17_0 : w7.cell? ⟨gb502, 0, none⟩ = some (.int .i64 a0_0) := (blk_cell BK502.out 0).trans rfl
      have hcz17_1 : w7.cell? ⟨gb502, 1, none⟩ = some (.string a0_1) := (blk_cell BK502.out 1).trans rfl
      have hcz17_2 : w7.cell? ⟨gb502, 2, none⟩ = some (.slice A0_2 l0_2.length c0_2) := (blk_cell BK502.out 2).trans rfl
      have hcz17_3 : w7.cell? ⟨gb502, 3, none⟩ = some (.slice A0_3 l0_3.length c0_3) := (blk_cell BK502.out 3).trans rfl
      have hfz17_0 := blk_frozen BK502.out 0
      have hfz17_1 := blk_frozen BK502.out 1
      have hfz17_2 := blk_frozen BK502.out 2
      have hfz17_3 := blk_frozen BK502.out 3
      go_wp2_with (first | ((with_reducible refine gate_callee (f := 49) rfl ?_); refine goesL_ (some 9) rfl rfl Try.func49 (by kernel_rfl) rfl #[.agg #[.int .i64 a0_0, .string a0_1, .slice A0_2 l0_2.length c0_2, .slice A0_3 l0_3.length c0_3]] rfl (by (try simp only [List.map_toArray, List.map_cons, List.map_nil]); first | done | rfl | (simp only [List.length_drop, List.length_take]; rfl)) ?_; (with_reducible refine (phalaroperef08_Few.calls k a0_0 a0_1 _ _ l0_2 _ _ l0_3 false _ ?side1 ?side2 ?side3 ?side4 A8.out).mono ?_); (case side1 => repeat (first | exact (Kd.C_below HR0_2.out HB.out) | (with_reducible refine Kd.C_alloc ?_ _) | (with_reducible refine Kd.C_drewN ?_ _) | (with_reducible refine Kd.C_drew ?_))); (case side2 => exact HC0_2.out); (case side3 => repeat (first | exact (Kd.C_below HR0_3.out HB.out) | (with_reducible refine Kd.C_alloc ?_ _) | (with_reducible refine Kd.C_drewN ?_ _) | (with_reducible refine Kd.C_drew ?_))); (case side4 => exact HC0_3.out); rintro e w18 ⟨rfl, hb⟩; refine ⟨_, rfl, ?_⟩; have n0_ := Aside0.mk (blk_below (g := gb502) (o := .cells #[.int .i64 a0_0, .string a0_1, .slice A0_2 l0_2.length c0_2, .slice A0_3 l0_3.length c0_3] 52 (0, 0)) (by (with_reducible repeat (first | refine blk_drewN ?_ _ | refine blk_drew ?_ | refine blk_alloc ?_ _)); exact BK502.out) hb); have n1_ := Aside0.mk (blk_below (g := gb503) (o := .cells #[.int .i64 a1_0, .string a1_1, .slice A1_2 l1_2.length c1_2, .slice A1_3 l1_3.length c1_3] 52 (0, 0)) (by (with_reducible repeat (first | refine blk_drewN ?_ _ | refine blk_drew ?_ | refine blk_alloc ?_ _)); exact BK503.out) hb); have n2_ := Aside0.mk (below_step (by repeat (first | (with_reducible first | exact HB.out | apply below_alloc | apply pw_below_drewN | apply below_drew1 | refine below_set ?_ GE502.out | refine below_set ?_ GE503.out) | exact HB.out)) hb); clear BK502; clear BK503; clear HB; have BK502 := n0_; have BK503 := n1_; have HB := n2_; clear n0_ n1_ n2_; (try clear hb); (try clear hb2); (try clear hk); (try clear hi)))
      go_meet
      case rel => exact ⟨_, (true), (by first | rfl | (simp; done) | (simp [*]; done)), H', ⟨by first | omega | exact Nat.le_refl _⟩, ⟨by (with_reducible repeat (first | refine blk_drewN ?_ _ | refine blk_drew ?_ | refine blk_alloc ?_ _)); exact BK502.out⟩, ⟨by (with_reducible repeat (first | refine blk_drewN ?_ _ | refine blk_drew ?_ | refine blk_alloc ?_ _)); exact BK503.out⟩, ⟨by repeat (first | (with_reducible first | exact HB.out | apply below_alloc | apply pw_below_drewN | apply below_drew1 | refine below_set ?_ GE502.out | refine below_set ?_ GE503.out) | exact HB.out)⟩⟩
  case rest =>
    clear HC4
    try clear c1
    try clear c2
    try clear p2
    try clear c4
    try clear c9
    try clear c11
    try clear c16
    try clear hcz12_0
    try clear hcz12_1
    try clear hcz12_2
    try clear hcz12_3
    try clear hcz14_0
    try clear hcz14_1
    try clear hcz14_2
    try clear hcz14_3
    try clear hcz17_0
    try clear hcz17_1
    try clear hcz17_2
    try clear hcz17_3
    try clear hfz12_0
    try clear hfz12_1
    try clear hfz12_2
    try clear hfz12_3
    try clear hfz14_0
    try clear hfz14_1
    try clear hfz14_2
    try clear hfz14_3
    try clear hfz17_0
    try clear hfz17_1
    try clear hfz17_2
    try clear hfz17_3
    obtain ⟨kq, x15_3, rfl, HA, HJ3, BK502, BK503, HB⟩ := hcut
    cases kq with
    | zero => exact absurd HA.out (by simp [phalaropelaw08_ValueOnly.j0])
    | succ kj3 =>
      have H := HA.out
      clear HA
      simp only [phalaropelaw08_ValueOnly.j0] at H
      by_cases c19 : x15_3 = true
      · subst c19
        have H1 : (some t504) = some r := by rw [if_pos rfl] at H; exact H
        clear H
        have H := H1
        clear H1
        obtain rfl := Option.some.inj H
        go_wp2
        go_ret
        exact ⟨by first | rfl | (simp [errW_none, errW_some] <;> rfl) | (simp [*, errW_none, errW_some] <;> rfl), by repeat (first | (with_reducible first | exact HB.out | apply below_alloc | apply pw_below_drewN | apply below_drew1 | refine below_set ?_ GE502.out | refine below_set ?_ GE503.out) | exact HB.out)⟩
      · replace c19 := Bool.eq_false_iff.mpr c19
        subst c19
        have H1 : (if a0_0 = 1 then (phalaropelaw08_ValueOnly.j1 kj3 t504 a0_0 a0_1 l0_2 l0_3 a0_0 a0_1 l1_2 l1_3) else (if a0_0 = 2 then (phalaropelaw08_ValueOnly.j1 kj3 t504 a0_0 a0_1 l0_2 l0_3 a0_0 a1_1 l0_2 l1_3) else (if a0_0 = 3 then (phalaropelaw08_ValueOnly.j1 kj3 t504 a0_0 a0_1 l0_2 l0_3 a0_0 a1_1 l1_2 l0_3) else (phalaropelaw08_ValueOnly.j1 kj3 t504 a0_0 a0_1 l0_2 l0_3 a0_0 a1_1 l1_2 l1_3)))) = some r := by rw [if_neg (show ¬ (false = true) by decide)] at H; exact H
        clear H
        have H := H1
        clear H1
        have HC20 := Aside0.mk H
        clear H
        have hnb21 := NB503_502.out
        have hnc21 := NB502_503.out
        have hcz22_0 : wc.cell? ⟨gb503, 0, none⟩ = some (.int .i64 a1_0) := (blk_cell BK503.out 0).trans rfl
        have hcz22_1 : wc.cell? ⟨gb503, 1, none⟩ = some (.string a1_1) := (blk_cell BK503.out 1).trans rfl
        have hcz22_2 : wc.cell? ⟨gb503, 2, none⟩ = some (.slice A1_2 l1_2.length c1_2) := (blk_cell BK503.out 2).trans rfl
        have hcz22_3 : wc.cell? ⟨gb503, 3, none⟩ = some (.slice A1_3 l1_3.length c1_3) := (blk_cell BK503.out 3).trans rfl
        have hfz22_0 := blk_frozen BK503.out 0
        have hfz22_1 := blk_frozen BK503.out 1
        have hfz22_2 := blk_frozen BK503.out 2
        have hfz22_3 := blk_frozen BK503.out 3
        go_upto_block 0 with (first | ((with_reducible refine gate_dst (N := 6) rfl ?_); refine box_event ?hg (N := 6) ?hd (cs := #[.int .i64 0, .string (⟨#[]⟩ : ByteArray), .slice none 0 0, .slice none 0 0]) (t := 52) ?hr ?_; (case hd => rfl); (case hg => rfl); (case hr => first | (go_simp; done) | (go_simp; rfl)); intro gb507 hg w23 hbox hb; have n0_ := Aside0.mk (blk_below (g := gb502) (o := .cells #[.int .i64 a0_0, .string a0_1, .slice A0_2 l0_2.length c0_2, .slice A0_3 l0_3.length c0_3] 52 (0, 0)) (by (with_reducible repeat (first | refine blk_drewN ?_ _ | refine blk_drew ?_ | refine blk_alloc ?_ _)); exact BK502.out) hb); have n1_ := Aside0.mk (blk_below (g := gb503) (o := .cells #[.int .i64 a1_0, .string a1_1, .slice A1_2 l1_2.length c1_2, .slice A1_3 l1_3.length c1_3] 52 (0, 0)) (by (with_reducible repeat (first | refine blk_drewN ?_ _ | refine blk_drew ?_ | refine blk_alloc ?_ _)); exact BK503.out) hb); have n2_ := Aside0.mk (below_step (by repeat (first | (with_reducible first | exact HB.out | apply below_alloc | apply pw_below_drewN | apply below_drew1 | refine below_set ?_ GE502.out | refine below_set ?_ GE503.out) | exact HB.out)) hb); have n3_ := Aside0.mk (hbox); have n4_ := Aside0.mk ((by rw [hg]; exact (below_size (by repeat (first | (with_reducible first | exact HB.out | apply below_alloc | apply pw_below_drewN | apply below_drew1 | refine below_set ?_ GE502.out | refine below_set ?_ GE503.out) | exact HB.out))) : w.heap.size ≤ gb507)); have n5_ := Aside0.mk ((by rw [hg]; exact (below_size (by repeat (first | (with_reducible first | exact HB.out | apply below_alloc | apply pw_below_drewN | apply below_drew1 | refine below_set ?_ GE502.out | refine below_set ?_ GE503.out) | exact HB.out))) : w.heap.size ≤ gb507)); have n6_ := Aside0.mk ((by rw [hg]; exact Nat.ne_of_lt (blk_lt (g := gb502) (o := .cells #[.int .i64 a0_0, .string a0_1, .slice A0_2 l0_2.length c0_2, .slice A0_3 l0_3.length c0_3] 52 (0, 0)) (by (with_reducible repeat (first | refine blk_drewN ?_ _ | refine blk_drew ?_ | refine blk_alloc ?_ _)); exact BK502.out)) : gb502 ≠ gb507)); have n7_ := Aside0.mk ((by rw [hg]; exact Nat.ne_of_gt (blk_lt (g := gb502) (o := .cells #[.int .i64 a0_0, .string a0_1, .slice A0_2 l0_2.length c0_2, .slice A0_3 l0_3.length c0_3] 52 (0, 0)) (by (with_reducible repeat (first | refine blk_drewN ?_ _ | refine blk_drew ?_ | refine blk_alloc ?_ _)); exact BK502.out)) : gb507 ≠ gb502)); have n8_ := Aside0.mk ((by rw [hg]; exact Nat.ne_of_lt (blk_lt (g := gb503) (o := .cells #[.int .i64 a1_0, .string a1_1, .slice A1_2 l1_2.length c1_2, .slice A1_3 l1_3.length c1_3] 52 (0, 0)) (by (with_reducible repeat (first | refine blk_drewN ?_ _ | refine blk_drew ?_ | refine blk_alloc ?_ _)); exact BK503.out)) : gb503 ≠ gb507)); have n9_ := Aside0.mk ((by rw [hg]; exact Nat.ne_of_gt (blk_lt (g := gb503) (o := .cells #[.int .i64 a1_0, .string a1_1, .slice A1_2 l1_2.length c1_2, .slice A1_3 l1_3.length c1_3] 52 (0, 0)) (by (with_reducible repeat (first | refine blk_drewN ?_ _ | refine blk_drew ?_ | refine blk_alloc ?_ _)); exact BK503.out)) : gb507 ≠ gb503)); clear BK502; clear BK503; clear HB; have BK502 := n0_; have BK503 := n1_; have HB := n2_; have BK507 := n3_; have GW507 := n4_; have GE507 := n5_; have NB502_507 := n6_; have NB507_502 := n7_; have NB503_507 := n8_; have NB507_503 := n9_; clear n0_ n1_ n2_ n3_ n4_ n5_ n6_ n7_ n8_ n9_; clear hb hbox hg; have hnb24 := NB507_502.out; have hnc24 := NB502_507.out; have hnb25 := NB507_503.out; have hnc25 := NB503_507.out; have hcz26_0 : w23.cell? ⟨gb507, 0, none⟩ = some (.int .i64 0) := (blk_cell BK507.out 0).trans rfl; have hcz26_1 : w23.cell? ⟨gb507, 1, none⟩ = some (.string (⟨#[]⟩ : ByteArray)) := (blk_cell BK507.out 1).trans rfl; have hcz26_2 : w23.cell? ⟨gb507, 2, none⟩ = some (.slice none 0 0) := (blk_cell BK507.out 2).trans rfl; have hcz26_3 : w23.cell? ⟨gb507, 3, none⟩ = some (.slice none 0 0) := (blk_cell BK507.out 3).trans rfl; have hfz26_0 := blk_frozen BK507.out 0; have hfz26_1 := blk_frozen BK507.out 1; have hfz26_2 := blk_frozen BK507.out 2; have hfz26_3 := blk_frozen BK507.out 3; have hcz27_0 : w23.cell? ⟨gb502, 0, none⟩ = some (.int .i64 a0_0) := (blk_cell BK502.out 0).trans rfl; have hcz27_1 : w23.cell? ⟨gb502, 1, none⟩ = some (.string a0_1) := (blk_cell BK502.out 1).trans rfl; have hcz27_2 : w23.cell? ⟨gb502, 2, none⟩ = some (.slice A0_2 l0_2.length c0_2) := (blk_cell BK502.out 2).trans rfl; have hcz27_3 : w23.cell? ⟨gb502, 3, none⟩ = some (.slice A0_3 l0_3.length c0_3) := (blk_cell BK502.out 3).trans rfl; have hfz27_0 := blk_frozen BK502.out 0; have hfz27_1 := blk_frozen BK502.out 1; have hfz27_2 := blk_frozen BK502.out 2; have hfz27_3 := blk_frozen BK502.out 3))
        (try simp only [Act.put, List.setIfInBounds_toArray, List.set_cons_zero, List.set_cons_succ])
        go_cut [] (fun wc => ∃ (kq : Nat) (x508001_19 : ByteArray) (Ax_2 : Option Addr) (cx_2 : Nat) (lx_2 : List ByteArray) (Ax_3 : Option Addr) (cx_3 : Nat) (lx_3 : List S76), Aside0 (Kd.C Kd.string w Ax_2 lx_2.length lx_2) ∧ Aside0 (lx_2.length ≤ cx_2) ∧ Aside0 (Kd.C k76 w Ax_3 lx_3.length lx_3) ∧ Aside0 (lx_3.length ≤ cx_3) ∧ Aside0 (phalaropelaw08_ValueOnly.j1 kq t504 a0_0 a0_1 l0_2 l0_3 a0_0 x508001_19 lx_2 lx_3 = some r) ∧ Aside0 (kq ≤ kj3) ∧ Aside0 (wc.heap[gb502]? = some (.cells #[.int .i64 a0_0, .string a0_1, (.slice A0_2 l0_2.length c0_2), (.slice A0_3 l0_3.length c0_3)] 52 (0, 0))) ∧ Aside0 (wc.heap[gb503]? = some (.cells #[.int .i64 a1_0, .string a1_1, (.slice A1_2 l1_2.length c1_2), (.slice A1_3 l1_3.length c1_3)] 52 (0, 0))) ∧ Aside0 (wc.heap[gb507]? = some (.cells #[.int .i64 a0_0, .string x508001_19, (.slice Ax_2 lx_2.length cx_2), (.slice Ax_3 lx_3.length cx_3)] 52 (0, 0))) ∧ Aside0 (Below w.heap.size w wc))
        case first =>
          have H := HC20.out
          clear HC20
          by_cases c28 : a0_0 = 1
          · rw [if_pos c28] at H
            have c28b0 : (a0_0 == 1) = true := beq_iff_eq.mpr c28
            have c28b1 : (a0_0 != 1) = false := bne_eq_false_iff_eq.mpr c28
            clear c28
            (first | rw [c28b0] | (simp only [i64_w, i32_w]; rw [c28b0]) | skip)
            have H' := Aside0.mk H
            clear H
            have hnb29 := NB502_503.out
            have hnc29 := NB503_502.out
            have hnb30 := NB502_507.out
            have hnc30 := NB507_502.out
            have hcz31_0 : w23.cell? ⟨gb502, 0, none⟩ = some (.int .i64 a0_0) := (blk_cell BK502.out 0).trans rfl
            have hcz31_1 : w23.cell? ⟨gb502, 1, none⟩ = some (.string a0_1) := (blk_cell BK502.out 1).trans rfl
            have hcz31_2 : w23.cell? ⟨gb502, 2, none⟩ = some (.slice A0_2 l0_2.length c0_2) := (blk_cell BK502.out 2).trans rfl
            have hcz31_3 : w23.cell? ⟨gb502, 3, none⟩ = some (.slice A0_3 l0_3.length c0_3) := (blk_cell BK502.out 3).trans rfl
            have hfz31_0 := blk_frozen BK502.out 0
            have hfz31_1 := blk_frozen BK502.out 1
            have hfz31_2 := blk_frozen BK502.out 2
            have hfz31_3 := blk_frozen BK502.out 3
            have hnb32 := NB507_503.out
            have hnc32 := NB503_507.out
            have hcz33_0 : w23.cell? ⟨gb507, 0, none⟩ = some (.int .i64 0) := (blk_cell BK507.out 0).trans rfl
            have hcz33_1 : w23.cell? ⟨gb507, 1, none⟩ = some (.string (⟨#[]⟩ : ByteArray)) := (blk_cell BK507.out 1).trans rfl
            have hcz33_2 : w23.cell? ⟨gb507, 2, none⟩ = some (.slice none 0 0) := (blk_cell BK507.out 2).trans rfl
            have hcz33_3 : w23.cell? ⟨gb507, 3, none⟩ = some (.slice none 0 0) := (blk_cell BK507.out 3).trans rfl
            have hfz33_0 := blk_frozen BK507.out 0
            have hfz33_1 := blk_frozen BK507.out 1
            have hfz33_2 := blk_frozen BK507.out 2
            have hfz33_3 := blk_frozen BK507.out 3
            go_wp2
            go_meet
            case rel => exact ⟨_, (a0_1), A1_2, c1_2, l1_2, A1_3, c1_3, l1_3, HR1_2, HC1_2, HR1_3, HC1_3, H', ⟨by have := HJ3.out; first | omega | exact Nat.le_refl _⟩, ⟨by (with_reducible repeat (first | refine blk_drewN ?_ _ | refine blk_drew ?_ | refine blk_alloc ?_ _)); refine blk_far ?_ NB502_507.out _; (with_reducible repeat (first | refine blk_drewN ?_ _ | refine blk_drew ?_ | refine blk_alloc ?_ _)); refine blk_far ?_ NB502_507.out _; (with_reducible repeat (first | refine blk_drewN ?_ _ | refine blk_drew ?_ | refine blk_alloc ?_ _)); refine blk_far ?_ NB502_507.out _; (with_reducible repeat (first | refine blk_drewN ?_ _ | refine blk_drew ?_ | refine blk_alloc ?_ _)); refine blk_far ?_ NB502_507.out _; (with_reducible repeat (first | refine blk_drewN ?_ _ | refine blk_drew ?_ | refine blk_alloc ?_ _)); refine blk_far ?_ NB502_507.out _; (with_reducible repeat (first | refine blk_drewN ?_ _ | refine blk_drew ?_ | refine blk_alloc ?_ _)); refine blk_far ?_ NB502_507.out _; (with_reducible repeat (first | refine blk_drewN ?_ _ | refine blk_drew ?_ | refine blk_alloc ?_ _)); exact BK502.out⟩, ⟨by (with_reducible repeat (first | refine blk_drewN ?_ _ | refine blk_drew ?_ | refine blk_alloc ?_ _)); refine blk_far ?_ NB503_507.out _; (with_reducible repeat (first | refine blk_drewN ?_ _ | refine blk_drew ?_ | refine blk_alloc ?_ _)); refine blk_far ?_ NB503_507.out _; (with_reducible repeat (first | refine blk_drewN ?_ _ | refine blk_drew ?_ | refine blk_alloc ?_ _)); refine blk_far ?_ NB503_507.out _; (with_reducible repeat (first | refine blk_drewN ?_ _ | refine blk_drew ?_ | refine blk_alloc ?_ _)); refine blk_far ?_ NB503_507.out _; (with_reducible repeat (first | refine blk_drewN ?_ _ | refine blk_drew ?_ | refine blk_alloc ?_ _)); refine blk_far ?_ NB503_507.out _; (with_reducible repeat (first | refine blk_drewN ?_ _ | refine blk_drew ?_ | refine blk_alloc ?_ _)); refine blk_far ?_ NB503_507.out _; (with_reducible repeat (first | refine blk_drewN ?_ _ | refine blk_drew ?_ | refine blk_alloc ?_ _)); exact BK503.out⟩, ⟨by (with_reducible repeat (first | refine blk_drewN ?_ _ | refine blk_drew ?_ | refine blk_alloc ?_ _)); refine blk_put (cs := #[.int .i64 a0_0, .string a1_1, .slice A1_2 l1_2.length c1_2, .slice A1_3 l1_3.length c1_3]) ?_ 1 _ rfl; (with_reducible repeat (first | refine blk_drewN ?_ _ | refine blk_drew ?_ | refine blk_alloc ?_ _)); refine blk_put (cs := #[.int .i64 a1_0, .string a1_1, .slice A1_2 l1_2.length c1_2, .slice A1_3 l1_3.length c1_3]) ?_ 0 _ rfl; (with_reducible repeat (first | refine blk_drewN ?_ _ | refine blk_drew ?_ | refine blk_alloc ?_ _)); refine blk_put (cs := #[.int .i64 a1_0, .string a1_1, .slice A1_2 l1_2.length c1_2, .slice none 0 0]) ?_ 3 _ rfl; (with_reducible repeat (first | refine blk_drewN ?_ _ | refine blk_drew ?_ | refine blk_alloc ?_ _)); refine blk_put (cs := #[.int .i64 a1_0, .string a1_1, .slice none 0 0, .slice none 0 0]) ?_ 2 _ rfl; (with_reducible repeat (first | refine blk_drewN ?_ _ | refine blk_drew ?_ | refine blk_alloc ?_ _)); refine blk_put (cs := #[.int .i64 a1_0, .string (⟨#[]⟩ : ByteArray), .slice none 0 0, .slice none 0 0]) ?_ 1 _ rfl; (with_reducible repeat (first | refine blk_drewN ?_ _ | refine blk_drew ?_ | refine blk_alloc ?_ _)); refine blk_put (cs := #[.int .i64 0, .string (⟨#[]⟩ : ByteArray), .slice none 0 0, .slice none 0 0]) ?_ 0 _ rfl; (with_reducible repeat (first | refine blk_drewN ?_ _ | refine blk_drew ?_ | refine blk_alloc ?_ _)); exact BK507.out⟩, ⟨by repeat (first | (with_reducible first | exact HB.out | apply below_alloc | apply pw_below_drewN | apply below_drew1 | refine below_set ?_ GE502.out | refine below_set ?_ GE503.out | refine below_set ?_ GE507.out) | exact HB.out)⟩⟩
          · rw [if_neg c28] at H
            have c28b0 : (a0_0 == 1) = false := beq_eq_false_iff_ne.mpr c28
            have c28b1 : (a0_0 != 1) = true := bne_iff_ne.mpr c28
            (first | rw [c28b0] | (simp only [i64_w, i32_w]; rw [c28b0]) | skip)
            by_cases c34 : a0_0 = 2
            · rw [if_pos c34] at H
              have c34b0 : (a0_0 == 2) = true := beq_iff_eq.mpr c34
              have c34b1 : (a0_0 != 2) = false := bne_eq_false_iff_eq.mpr c34
              clear c34
              have H' := Aside0.mk H
              clear H
              have hnb29 := NB502_503.out
              have hnc29 := NB503_502.out
              have hnb30 := NB502_507.out
              have hnc30 := NB507_502.out
              have hcz31_0 : w23.cell? ⟨gb502, 0, none⟩ = some (.int .i64 a0_0) := (blk_cell BK502.out 0).trans rfl
              have hcz31_1 : w23.cell? ⟨gb502, 1, none⟩ = some (.string a0_1) := (blk_cell BK502.out 1).trans rfl
              have hcz31_2 : w23.cell? ⟨gb502, 2, none⟩ = some (.slice A0_2 l0_2.length c0_2) := (blk_cell BK502.out 2).trans rfl
              have hcz31_3 : w23.cell? ⟨gb502, 3, none⟩ = some (.slice A0_3 l0_3.length c0_3) := (blk_cell BK502.out 3).trans rfl
              have hfz31_0 := blk_frozen BK502.out 0
              have hfz31_1 := blk_frozen BK502.out 1
              have hfz31_2 := blk_frozen BK502.out 2
              have hfz31_3 := blk_frozen BK502.out 3
              have hnb32 := NB507_503.out
              have hnc32 := NB503_507.out
              have hcz33_0 : w23.cell? ⟨gb507, 0, none⟩ = some (.int .i64 0) := (blk_cell BK507.out 0).trans rfl
              have hcz33_1 : w23.cell? ⟨gb507, 1, none⟩ = some (.string (⟨#[]⟩ : ByteArray)) := (blk_cell BK507.out 1).trans rfl
              have hcz33_2 : w23.cell? ⟨gb507, 2, none⟩ = some (.slice none 0 0) := (blk_cell BK507.out 2).trans rfl
              have hcz33_3 : w23.cell? ⟨gb507, 3, none⟩ = some (.slice none 0 0) := (blk_cell BK507.out 3).trans rfl
              have hfz33_0 := blk_frozen BK507.out 0
              have hfz33_1 := blk_frozen BK507.out 1
              have hfz33_2 := blk_frozen BK507.out 2
              have hfz33_3 := blk_frozen BK507.out 3
              go_wp2
              go_meet
              case rel => exact ⟨_, (a1_1), A0_2, c0_2, l0_2, A1_3, c1_3, l1_3, HR0_2, HC0_2, HR1_3, HC1_3, H', ⟨by have := HJ3.out; first | omega | exact Nat.le_refl _⟩, ⟨by (with_reducible repeat (first | refine blk_drewN ?_ _ | refine blk_drew ?_ | refine blk_alloc ?_ _)); refine blk_far ?_ NB502_507.out _; (with_reducible repeat (first | refine blk_drewN ?_ _ | refine blk_drew ?_ | refine blk_alloc ?_ _)); refine blk_far ?_ NB502_507.out _; (with_reducible repeat (first | refine blk_drewN ?_ _ | refine blk_drew ?_ | refine blk_alloc ?_ _)); refine blk_far ?_ NB502_507.out _; (with_reducible repeat (first | refine blk_drewN ?_ _ | refine blk_drew ?_ | refine blk_alloc ?_ _)); refine blk_far ?_ NB502_507.out _; (with_reducible repeat (first | refine blk_drewN ?_ _ | refine blk_drew ?_ | refine blk_alloc ?_ _)); refine blk_far ?_ NB502_507.out _; (with_reducible repeat (first | refine blk_drewN ?_ _ | refine blk_drew ?_ | refine blk_alloc ?_ _)); refine blk_far ?_ NB502_507.out _; (with_reducible repeat (first | refine blk_drewN ?_ _ | refine blk_drew ?_ | refine blk_alloc ?_ _)); exact BK502.out⟩, ⟨by (with_reducible repeat (first | refine blk_drewN ?_ _ | refine blk_drew ?_ | refine blk_alloc ?_ _)); refine blk_far ?_ NB503_507.out _; (with_reducible repeat (first | refine blk_drewN ?_ _ | refine blk_drew ?_ | refine blk_alloc ?_ _)); refine blk_far ?_ NB503_507.out _; (with_reducible repeat (first | refine blk_drewN ?_ _ | refine blk_drew ?_ | refine blk_alloc ?_ _)); refine blk_far ?_ NB503_507.out _; (with_reducible repeat (first | refine blk_drewN ?_ _ | refine blk_drew ?_ | refine blk_alloc ?_ _)); refine blk_far ?_ NB503_507.out _; (with_reducible repeat (first | refine blk_drewN ?_ _ | refine blk_drew ?_ | refine blk_alloc ?_ _)); refine blk_far ?_ NB503_507.out _; (with_reducible repeat (first | refine blk_drewN ?_ _ | refine blk_drew ?_ | refine blk_alloc ?_ _)); refine blk_far ?_ NB503_507.out _; (with_reducible repeat (first | refine blk_drewN ?_ _ | refine blk_drew ?_ | refine blk_alloc ?_ _)); exact BK503.out⟩, ⟨by (with_reducible repeat (first | refine blk_drewN ?_ _ | refine blk_drew ?_ | refine blk_alloc ?_ _)); refine blk_put (cs := #[.int .i64 a0_0, .string a1_1, .slice A1_2 l1_2.length c1_2, .slice A1_3 l1_3.length c1_3]) ?_ 2 _ rfl; (with_reducible repeat (first | refine blk_drewN ?_ _ | refine blk_drew ?_ | refine blk_alloc ?_ _)); refine blk_put (cs := #[.int .i64 a1_0, .string a1_1, .slice A1_2 l1_2.length c1_2, .slice A1_3 l1_3.length c1_3]) ?_ 0 _ rfl; (with_reducible repeat (first | refine blk_drewN ?_ _ | refine blk_drew ?_ | refine blk_alloc ?_ _)); refine blk_put (cs := #[.int .i64 a1_0, .string a1_1, .slice A1_2 l1_2.length c1_2, .slice none 0 0]) ?_ 3 _ rfl; (with_reducible repeat (first | refine blk_drewN ?_ _ | refine blk_drew ?_ | refine blk_alloc ?_ _)); refine blk_put (cs := #[.int .i64 a1_0, .string a1_1, .slice none 0 0, .slice none 0 0]) ?_ 2 _ rfl; (with_reducible repeat (first | refine blk_drewN ?_ _ | refine blk_drew ?_ | refine blk_alloc ?_ _)); refine blk_put (cs := #[.int .i64 a1_0, .string (⟨#[]⟩ : ByteArray), .slice none 0 0, .slice none 0 0]) ?_ 1 _ rfl; (with_reducible repeat (first | refine blk_drewN ?_ _ | refine blk_drew ?_ | refine blk_alloc ?_ _)); refine blk_put (cs := #[.int .i64 0, .string (⟨#[]⟩ : ByteArray), .slice none 0 0, .slice none 0 0]) ?_ 0 _ rfl; (with_reducible repeat (first | refine blk_drewN ?_ _ | refine blk_drew ?_ | refine blk_alloc ?_ _)); exact BK507.out⟩, ⟨by repeat (first | (with_reducible first | exact HB.out | apply below_alloc | apply pw_below_drewN | apply below_drew1 | refine below_set ?_ GE502.out | refine below_set ?_ GE503.out | refine below_set ?_ GE507.out) | exact HB.out)⟩⟩
            · rw [if_neg c34] at H
              have c34b0 : (a0_0 == 2) = false := beq_eq_false_iff_ne.mpr c34
              have c34b1 : (a0_0 != 2) = true := bne_iff_ne.mpr c34
              by_cases c35 : a0_0 = 3
              · rw [if_pos c35] at H
                have c35b0 : (a0_0 == 3) = true := beq_iff_eq.mpr c35
                have c35b1 : (a0_0 != 3) = false := bne_eq_false_iff_eq.mpr c35
                clear c35
                have H' := Aside0.mk H
                clear H
                have hnb29 := NB502_503.out
                have hnc29 := NB503_502.out
                have hnb30 := NB502_507.out
                have hnc30 := NB507_502.out
                have hcz31_0 : w23.cell? ⟨gb502, 0, none⟩ = some (.int .i64 a0_0) := (blk_cell BK502.out 0).trans rfl
                have hcz31_1 : w23.cell? ⟨gb502, 1, none⟩ = some (.string a0_1) := (blk_cell BK502.out 1).trans rfl
                have hcz31_2 : w23.cell? ⟨gb502, 2, none⟩ = some (.slice A0_2 l0_2.length c0_2) := (blk_cell BK502.out 2).trans rfl
                have hcz31_3 : w23.cell? ⟨gb502, 3, none⟩ = some (.slice A0_3 l0_3.length c0_3) := (blk_cell BK502.out 3).trans rfl
                have hfz31_0 := blk_frozen BK502.out 0
                have hfz31_1 := blk_frozen BK502.out 1
                have hfz31_2 := blk_frozen BK502.out 2
                have hfz31_3 := blk_frozen BK502.out 3
                have hnb32 := NB507_503.out
                have hnc32 := NB503_507.out
                have hcz33_0 : w23.cell? ⟨gb507, 0, none⟩ = some (.int .i64 0) := (blk_cell BK507.out 0).trans rfl
                have hcz33_1 : w23.cell? ⟨gb507, 1, none⟩ = some (.string (⟨#[]⟩ : ByteArray)) := (blk_cell BK507.out 1).trans rfl
                have hcz33_2 : w23.cell? ⟨gb507, 2, none⟩ = some (.slice none 0 0) := (blk_cell BK507.out 2).trans rfl
                have hcz33_3 : w23.cell? ⟨gb507, 3, none⟩ = some (.slice none 0 0) := (blk_cell BK507.out 3).trans rfl
                have hfz33_0 := blk_frozen BK507.out 0
                have hfz33_1 := blk_frozen BK507.out 1
                have hfz33_2 := blk_frozen BK507.out 2
                have hfz33_3 := blk_frozen BK507.out 3
                go_wp2
                go_meet
                case rel => exact ⟨_, (a1_1), A1_2, c1_2, l1_2, A0_3, c0_3, l0_3, HR1_2, HC1_2, HR0_3, HC0_3, H', ⟨by have := HJ3.out; first | omega | exact Nat.le_refl _⟩, ⟨by (with_reducible repeat (first | refine blk_drewN ?_ _ | refine blk_drew ?_ | refine blk_alloc ?_ _)); refine blk_far ?_ NB502_507.out _; (with_reducible repeat (first | refine blk_drewN ?_ _ | refine blk_drew ?_ | refine blk_alloc ?_ _)); refine blk_far ?_ NB502_507.out _; (with_reducible repeat (first | refine blk_drewN ?_ _ | refine blk_drew ?_ | refine blk_alloc ?_ _)); refine blk_far ?_ NB502_507.out _; (with_reducible repeat (first | refine blk_drewN ?_ _ | refine blk_drew ?_ | refine blk_alloc ?_ _)); refine blk_far ?_ NB502_507.out _; (with_reducible repeat (first | refine blk_drewN ?_ _ | refine blk_drew ?_ | refine blk_alloc ?_ _)); refine blk_far ?_ NB502_507.out _; (with_reducible repeat (first | refine blk_drewN ?_ _ | refine blk_drew ?_ | refine blk_alloc ?_ _)); refine blk_far ?_ NB502_507.out _; (with_reducible repeat (first | refine blk_drewN ?_ _ | refine blk_drew ?_ | refine blk_alloc ?_ _)); exact BK502.out⟩, ⟨by (with_reducible repeat (first | refine blk_drewN ?_ _ | refine blk_drew ?_ | refine blk_alloc ?_ _)); refine blk_far ?_ NB503_507.out _; (with_reducible repeat (first | refine blk_drewN ?_ _ | refine blk_drew ?_ | refine blk_alloc ?_ _)); refine blk_far ?_ NB503_507.out _; (with_reducible repeat (first | refine blk_drewN ?_ _ | refine blk_drew ?_ | refine blk_alloc ?_ _)); refine blk_far ?_ NB503_507.out _; (with_reducible repeat (first | refine blk_drewN ?_ _ | refine blk_drew ?_ | refine blk_alloc ?_ _)); refine blk_far ?_ NB503_507.out _; (with_reducible repeat (first | refine blk_drewN ?_ _ | refine blk_drew ?_ | refine blk_alloc ?_ _)); refine blk_far ?_ NB503_507.out _; (with_reducible repeat (first | refine blk_drewN ?_ _ | refine blk_drew ?_ | refine blk_alloc ?_ _)); refine blk_far ?_ NB503_507.out _; (with_reducible repeat (first | refine blk_drewN ?_ _ | refine blk_drew ?_ | refine blk_alloc ?_ _)); exact BK503.out⟩, ⟨by (with_reducible repeat (first | refine blk_drewN ?_ _ | refine blk_drew ?_ | refine blk_alloc ?_ _)); refine blk_put (cs := #[.int .i64 a0_0, .string a1_1, .slice A1_2 l1_2.length c1_2, .slice A1_3 l1_3.length c1_3]) ?_ 3 _ rfl; (with_reducible repeat (first | refine blk_drewN ?_ _ | refine blk_drew ?_ | refine blk_alloc ?_ _)); refine blk_put (cs := #[.int .i64 a1_0, .string a1_1, .slice A1_2 l1_2.length c1_2, .slice A1_3 l1_3.length c1_3]) ?_ 0 _ rfl; (with_reducible repeat (first | refine blk_drewN ?_ _ | refine blk_drew ?_ | refine blk_alloc ?_ _)); refine blk_put (cs := #[.int .i64 a1_0, .string a1_1, .slice A1_2 l1_2.length c1_2, .slice none 0 0]) ?_ 3 _ rfl; (with_reducible repeat (first | refine blk_drewN ?_ _ | refine blk_drew ?_ | refine blk_alloc ?_ _)); refine blk_put (cs := #[.int .i64 a1_0, .string a1_1, .slice none 0 0, .slice none 0 0]) ?_ 2 _ rfl; (with_reducible repeat (first | refine blk_drewN ?_ _ | refine blk_drew ?_ | refine blk_alloc ?_ _)); refine blk_put (cs := #[.int .i64 a1_0, .string (⟨#[]⟩ : ByteArray), .slice none 0 0, .slice none 0 0]) ?_ 1 _ rfl; (with_reducible repeat (first | refine blk_drewN ?_ _ | refine blk_drew ?_ | refine blk_alloc ?_ _)); refine blk_put (cs := #[.int .i64 0, .string (⟨#[]⟩ : ByteArray), .slice none 0 0, .slice none 0 0]) ?_ 0 _ rfl; (with_reducible repeat (first | refine blk_drewN ?_ _ | refine blk_drew ?_ | refine blk_alloc ?_ _)); exact BK507.out⟩, ⟨by repeat (first | (with_reducible first | exact HB.out | apply below_alloc | apply pw_below_drewN | apply below_drew1 | refine below_set ?_ GE502.out | refine below_set ?_ GE503.out | refine below_set ?_ GE507.out) | exact HB.out)⟩⟩
              · rw [if_neg c35] at H
                have c35b0 : (a0_0 == 3) = false := beq_eq_false_iff_ne.mpr c35
                have c35b1 : (a0_0 != 3) = true := bne_iff_ne.mpr c35
                have H' := Aside0.mk H
                clear H
                go_wp2
                go_meet
                case rel => exact ⟨_, (a1_1), A1_2, c1_2, l1_2, A1_3, c1_3, l1_3, HR1_2, HC1_2, HR1_3, HC1_3, H', ⟨by have := HJ3.out; first | omega | exact Nat.le_refl _⟩, ⟨by (with_reducible repeat (first | refine blk_drewN ?_ _ | refine blk_drew ?_ | refine blk_alloc ?_ _)); refine blk_far ?_ NB502_507.out _; (with_reducible repeat (first | refine blk_drewN ?_ _ | refine blk_drew ?_ | refine blk_alloc ?_ _)); refine blk_far ?_ NB502_507.out _; (with_reducible repeat (first | refine blk_drewN ?_ _ | refine blk_drew ?_ | refine blk_alloc ?_ _)); refine blk_far ?_ NB502_507.out _; (with_reducible repeat (first | refine blk_drewN ?_ _ | refine blk_drew ?_ | refine blk_alloc ?_ _)); refine blk_far ?_ NB502_507.out _; (with_reducible repeat (first | refine blk_drewN ?_ _ | refine blk_drew ?_ | refine blk_alloc ?_ _)); refine blk_far ?_ NB502_507.out _; (with_reducible repeat (first | refine blk_drewN ?_ _ | refine blk_drew ?_ | refine blk_alloc ?_ _)); exact BK502.out⟩, ⟨by (with_reducible repeat (first | refine blk_drewN ?_ _ | refine blk_drew ?_ | refine blk_alloc ?_ _)); refine blk_far ?_ NB503_507.out _; (with_reducible repeat (first | refine blk_drewN ?_ _ | refine blk_drew ?_ | refine blk_alloc ?_ _)); refine blk_far ?_ NB503_507.out _; (with_reducible repeat (first | refine blk_drewN ?_ _ | refine blk_drew ?_ | refine blk_alloc ?_ _)); refine blk_far ?_ NB503_507.out _; (with_reducible repeat (first | refine blk_drewN ?_ _ | refine blk_drew ?_ | refine blk_alloc ?_ _)); refine blk_far ?_ NB503_507.out _; (with_reducible repeat (first | refine blk_drewN ?_ _ | refine blk_drew ?_ | refine blk_alloc ?_ _)); refine blk_far ?_ NB503_507.out _; (with_reducible repeat (first | refine blk_drewN ?_ _ | refine blk_drew ?_ | refine blk_alloc ?_ _)); exact BK503.out⟩, ⟨by (with_reducible repeat (first | refine blk_drewN ?_ _ | refine blk_drew ?_ | refine blk_alloc ?_ _)); refine blk_put (cs := #[.int .i64 a1_0, .string a1_1, .slice A1_2 l1_2.length c1_2, .slice A1_3 l1_3.length c1_3]) ?_ 0 _ rfl; (with_reducible repeat (first | refine blk_drewN ?_ _ | refine blk_drew ?_ | refine blk_alloc ?_ _)); refine blk_put (cs := #[.int .i64 a1_0, .string a1_1, .slice A1_2 l1_2.length c1_2, .slice none 0 0]) ?_ 3 _ rfl; (with_reducible repeat (first | refine blk_drewN ?_ _ | refine blk_drew ?_ | refine blk_alloc ?_ _)); refine blk_put (cs := #[.int .i64 a1_0, .string a1_1, .slice none 0 0, .slice none 0 0]) ?_ 2 _ rfl; (with_reducible repeat (first | refine blk_drewN ?_ _ | refine blk_drew ?_ | refine blk_alloc ?_ _)); refine blk_put (cs := #[.int .i64 a1_0, .string (⟨#[]⟩ : ByteArray), .slice none 0 0, .slice none 0 0]) ?_ 1 _ rfl; (with_reducible repeat (first | refine blk_drewN ?_ _ | refine blk_drew ?_ | refine blk_alloc ?_ _)); refine blk_put (cs := #[.int .i64 0, .string (⟨#[]⟩ : ByteArray), .slice none 0 0, .slice none 0 0]) ?_ 0 _ rfl; (with_reducible repeat (first | refine blk_drewN ?_ _ | refine blk_drew ?_ | refine blk_alloc ?_ _)); exact BK507.out⟩, ⟨by repeat (first | (with_reducible first | exact HB.out | apply below_alloc | apply pw_below_drewN | apply below_drew1 | refine below_set ?_ GE502.out | refine below_set ?_ GE503.out | refine below_set ?_ GE507.out) | exact HB.out)⟩⟩
        case rest =>
          clear HC20
          try clear c1
          try clear c2
          try clear p2
          try clear c3
          try clear c4
          try clear c9
          try clear c11
          try clear c16
          try clear c19
          try clear c20
          try clear c21
          try clear c24
          try clear c25
          try clear c28
          try clear c28b0
          try clear c28b1
          try clear c29
          try clear c30
          try clear c32
          try clear c34
          try clear c34b0
          try clear c34b1
          try clear c35
          try clear c35b0
          try clear c35b1
          try clear hcz12_0
          try clear hcz12_1
          try clear hcz12_2
          try clear hcz12_3
          try clear hcz14_0
          try clear hcz14_1
          try clear hcz14_2
          try clear hcz14_3
          try clear hcz17_0
          try clear hcz17_1
          try clear hcz17_2
          try clear hcz17_3
          try clear hcz22_0
          try clear hcz22_1
          try clear hcz22_2
          try clear hcz22_3
          try clear hcz26_0
          try clear hcz26_1
          try clear hcz26_2
          try clear hcz26_3
          try clear hcz27_0
          try clear hcz27_1
          try clear hcz27_2
          try clear hcz27_3
          try clear hcz31_0
          try clear hcz31_1
          try clear hcz31_2
          try clear hcz31_3
          try clear hcz33_0
          try clear hcz33_1
          try clear hcz33_2
          try clear hcz33_3
          try clear hfz12_0
          try clear hfz12_1
          try clear hfz12_2
          try clear hfz12_3
          try clear hfz14_0
          try clear hfz14_1
          try clear hfz14_2
          try clear hfz14_3
          try clear hfz17_0
          try clear hfz17_1
          try clear hfz17_2
          try clear hfz17_3
          try clear hfz22_0
          try clear hfz22_1
          try clear hfz22_2
          try clear hfz22_3
          try clear hfz26_0
          try clear hfz26_1
          try clear hfz26_2
          try clear hfz26_3
          try clear hfz27_0
          try clear hfz27_1
          try clear hfz27_2
          try clear hfz27_3
          try clear hfz31_0
          try clear hfz31_1
          try clear hfz31_2
          try clear hfz31_3
          try clear hfz33_0
          try clear hfz33_1
          try clear hfz33_2
          try clear hfz33_3
          try clear p2
          obtain ⟨kq, x508001_19, Ax_2, cx_2, lx_2, Ax_3, cx_3, lx_3, HRx_2, HCx_2, HRx_3, HCx_3, HA, HJ19, BK502, BK503, BK507, HB⟩ := hcut
          cases kq with
          | zero => exact absurd HA.out (by simp [phalaropelaw08_ValueOnly.j1])
          | succ kj19 =>
            have H := HA.out
            clear HA
            simp only [phalaropelaw08_ValueOnly.j1] at H
            by_cases c36 : t504 = true
            · subst c36
              have H1 : ((value_Same.f kj19 a0_0 a0_1 l0_2 l0_3 a0_0 x508001_19 lx_2 lx_3).bind fun t508 => (if t508 = true then ((value_Defined.f kj19 a0_0 a0_1 l0_2 l0_3).bind fun t509 => ((value_Defined.f kj19 a0_0 x508001_19 lx_2 lx_3).bind fun t510 => (if (t509 == t510) = true then ((value_Valid.f a0_0 a0_1 l0_2 l0_3).bind fun t511 => ((value_Valid.f a0_0 x508001_19 lx_2 lx_3).bind fun t512 => (if (t511 == t512) = true then ((value_Texts.f kj19 a0_0 a0_1 l0_2 l0_3).bind fun t513 => ((value_Texts.f kj19 a0_0 x508001_19 lx_2 lx_3).bind fun t516 => ((phalaroperef05_Texts.f kj19 t513 t516).bind fun t519 => (some t519)))) else (some false)))) else (some false)))) else (some false))) = some r := by rw [if_pos rfl] at H; exact H
              clear H
              have H := H1
              clear H1
              replace H := Option.bind_eq_some_iff.mp H
              obtain ⟨t508, A370, H⟩ := H
              replace H : (if t508 = true then ((value_Defined.f kj19 a0_0 a0_1 l0_2 l0_3).bind fun t509 => ((value_Defined.f kj19 a0_0 x508001_19 lx_2 lx_3).bind fun t510 => (if (t509 == t510) = true then ((value_Valid.f a0_0 a0_1 l0_2 l0_3).bind fun t511 => ((value_Valid.f a0_0 x508001_19 lx_2 lx_3).bind fun t512 => (if (t511 == t512) = true then ((value_Texts.f kj19 a0_0 a0_1 l0_2 l0_3).bind fun t513 => ((value_Texts.f kj19 a0_0 x508001_19 lx_2 lx_3).bind fun t516 => ((phalaroperef05_Texts.f kj19 t513 t516).bind fun t519 => (some t519)))) else (some false)))) else (some false)))) else (some false)) = some r := H
              have A37 := Aside0.mk A370
              clear A370
              by_cases c38 : t508 = true
              · subst c38
                have H1 : ((value_Defined.f kj19 a0_0 a0_1 l0_2 l0_3).bind fun t509 => ((value_Defined.f kj19 a0_0 x508001_19 lx_2 lx_3).bind fun t510 => (if (t509 == t510) = true then ((value_Valid.f a0_0 a0_1 l0_2 l0_3).bind fun t511 => ((value_Valid.f a0_0 x508001_19 lx_2 lx_3).bind fun t512 => (if (t511 == t512) = true then ((value_Texts.f kj19 a0_0 a0_1 l0_2 l0_3).bind fun t513 => ((value_Texts.f kj19 a0_0 x508001_19 lx_2 lx_3).bind fun t516 => ((phalaroperef05_Texts.f kj19 t513 t516).bind fun t519 => (some t519)))) else (some false)))) else (some false)))) = some r := by rw [if_pos rfl] at H; exact H
                clear H
                have H := H1
                clear H1
                replace H := Option.bind_eq_some_iff.mp H
                obtain ⟨t509, A390, H⟩ := H
                replace H : ((value_Defined.f kj19 a0_0 x508001_19 lx_2 lx_3).bind fun t510 => (if (t509 == t510) = true then ((value_Valid.f a0_0 a0_1 l0_2 l0_3).bind fun t511 => ((value_Valid.f a0_0 x508001_19 lx_2 lx_3).bind fun t512 => (if (t511 == t512) = true then ((value_Texts.f kj19 a0_0 a0_1 l0_2 l0_3).bind fun t513 => ((value_Texts.f kj19 a0_0 x508001_19 lx_2 lx_3).bind fun t516 => ((phalaroperef05_Texts.f kj19 t513 t516).bind fun t519 => (some t519)))) else (some false)))) else (some false))) = some r := H
                have A39 := Aside0.mk A390
                clear A390
                replace H := Option.bind_eq_some_iff.mp H
                obtain ⟨t510, A400, H⟩ := H
                replace H : (if (t509 == t510) = true then ((value_Valid.f a0_0 a0_1 l0_2 l0_3).bind fun t511 => ((value_Valid.f a0_0 x508001_19 lx_2 lx_3).bind fun t512 => (if (t511 == t512) = true then ((value_Texts.f kj19 a0_0 a0_1 l0_2 l0_3).bind fun t513 => ((value_Texts.f kj19 a0_0 x508001_19 lx_2 lx_3).bind fun t516 => ((phalaroperef05_Texts.f kj19 t513 t516).bind fun t519 => (some t519)))) else (some false)))) else (some false)) = some r := H
                have A40 := Aside0.mk A400
                clear A400
                by_cases c41 : (t509 == t510) = true
                · rw [if_pos c41] at H
                  have c41b0 : (t509 == t510) = true := c41
                  (try (have c41b1 : decide (t509 = t510) = true := by simpa using c41))
                  (try (have c41b2 : (t509 == t510) = true := by simpa using c41))
                  clear c41
                  replace H := Option.bind_eq_some_iff.mp H
                  obtain ⟨t511, A420, H⟩ := H
                  replace H : ((value_Valid.f a0_0 x508001_19 lx_2 lx_3).bind fun t512 => (if (t511 == t512) = true then ((value_Texts.f kj19 a0_0 a0_1 l0_2 l0_3).bind fun t513 => ((value_Texts.f kj19 a0_0 x508001_19 lx_2 lx_3).bind fun t516 => ((phalaroperef05_Texts.f kj19 t513 t516).bind fun t519 => (some t519)))) else (some false))) = some r := H
                  have A42 := Aside0.mk A420
                  clear A420
                  replace H := Option.bind_eq_some_iff.mp H
                  obtain ⟨t512, A430, H⟩ := H
                  replace H : (if (t511 == t512) = true then ((value_Texts.f kj19 a0_0 a0_1 l0_2 l0_3).bind fun t513 => ((value_Texts.f kj19 a0_0 x508001_19 lx_2 lx_3).bind fun t516 => ((phalaroperef05_Texts.f kj19 t513 t516).bind fun t519 => (some t519)))) else (some false)) = some r := H
                  have A43 := Aside0.mk A430
                  clear A430
                  by_cases c44 : (t511 == t512) = true
                  · rw [if_pos c44] at H
                    have c44b0 : (t511 == t512) = true := c44
                    (try (have c44b1 : decide (t511 = t512) = true := by simpa using c44))
                    (try (have c44b2 : (t511 == t512) = true := by simpa using c44))
                    clear c44
                    replace H := Option.bind_eq_some_iff.mp H
                    obtain ⟨t513, A450, H⟩ := H
                    replace H : ((value_Texts.f kj19 a0_0 x508001_19 lx_2 lx_3).bind fun t516 => ((phalaroperef05_Texts.f kj19 t513 t516).bind fun t519 => (some t519))) = some r := H
                    have A45 := Aside0.mk A450
                    clear A450
                    replace H := Option.bind_eq_some_iff.mp H
                    obtain ⟨t516, A460, H⟩ := H
                    replace H : ((phalaroperef05_Texts.f kj19 t513 t516).bind fun t519 => (some t519)) = some r := H
                    have A46 := Aside0.mk A460
                    clear A460
                    replace H := Option.bind_eq_some_iff.mp H
                    obtain ⟨t519, A470, H⟩ := H
                    replace H : (some t519) = some r := H
                    have A47 := Aside0.mk A470
                    clear A470
                    obtain rfl := Option.some.inj H
                    try go_wp2
                    have n0_ := Aside0.mk (blk_drew BK502.out)
                    have n1_ := Aside0.mk (blk_drew BK503.out)
                    have n2_ := Aside0.mk (blk_drew BK507.out)
                    have n3_ := Aside0.mk (below_drew1 HB.out)
                    clear BK502
                    clear BK503
                    clear BK507
                    clear HB
                    have BK502 := n0_
                    have BK503 := n1_
                    have BK507 := n2_
                    have HB := n3_
                    clear n0_ n1_ n2_ n3_
                    refine start_ (n := 28) (S := fun w' => w'.cell? ⟨gb502, 0, none⟩ = some (.int .i64 a0_0) ∧ w'.cell? ⟨gb502, 1, none⟩ = some (.string a0_1) ∧ w'.cell? ⟨gb502, 2, none⟩ = some (.slice A0_2 l0_2.length c0_2) ∧ w'.cell? ⟨gb502, 3, none⟩ = some (.slice A0_3 l0_3.length c0_3) ∧ w'.cell? ⟨gb507, 0, none⟩ = some (.int .i64 a0_0) ∧ w'.cell? ⟨gb507, 1, none⟩ = some (.string x508001_19) ∧ w'.cell? ⟨gb507, 2, none⟩ = some (.slice Ax_2 lx_2.length cx_2) ∧ w'.cell? ⟨gb507, 3, none⟩ = some (.slice Ax_3 lx_3.length cx_3)) (ds := []) #[false, false, false, false, false, false, false, false, false, false, false, false, false, false, false, false, false, false, false, false, false, false, false, false, false, false, false, false] (by kernel_rfl) rfl rfl ⟨(blk_cell BK502.out 0).trans rfl, (blk_cell BK502.out 1).trans rfl, (blk_cell BK502.out 2).trans rfl, (blk_cell BK502.out 3).trans rfl, (blk_cell BK507.out 0).trans rfl, (blk_cell BK507.out 1).trans rfl, (blk_cell BK507.out 2).trans rfl, (blk_cell BK507.out 3).trans rfl⟩ (fun hHeld => ?_); refine with_tabW phalaropelaw08_ValueOnly.tab13 phalaropelaw08_ValueOnly.bits13 (fun HT_ HW_ => ?_)
                    generalize wc.drew = w48 at BK502 BK503 BK507 HB hHeld ⊢
                    refine pure_ (i := 0) (N := some 38) (v := ?_) (a' := ?_) #[true, false, false, false, false, false, false, false, false, false, false, false, false, false, false, false, false, false, false, false, false, false, false, false, false, false, false, false] rfl rfl (any_of HT_.out (by kernel_rfl)) (fun _ _ _ h => h) (Or.inl ⟨by rfl, ?_⟩) ?_ ?_
                    rotate_left
                    · intro w'
                      go_simp
                      with_reducible rfl
                    rotate_left
                    · simp only [Act.put, List.setIfInBounds_toArray, List.set_cons_zero, List.set_cons_succ, i64_w, i32_w]
                      rfl
                    refine pure_ (i := 1) (N := some 39) (v := ?_) (a' := ?_) #[true, true, false, false, false, false, false, false, false, false, false, false, false, false, false, false, false, false, false, false, false, false, false, false, false, false, false, false] rfl rfl (any_of HT_.out (by kernel_rfl)) (fun _ _ _ h => h) (Or.inl ⟨by rfl, ?_⟩) ?_ ?_
                    rotate_left
                    · intro w'
                      go_simp
                      with_reducible rfl
                    rotate_left
                    · simp only [Act.put, List.setIfInBounds_toArray, List.set_cons_zero, List.set_cons_succ, i64_w, i32_w]
                      rfl
                    refine take_ (i := 2) (N := some 40) (v := ?_) (a' := ?_) #[true, true, true, false, false, false, false, false, false, false, false, false, false, false, false, false, false, false, false, false, false, false, false, false, false, false, false, false] rfl rfl (take_ofW HT_.out HW_.out (by kernel_rfl)) (fun _ _ _ h => h) (Or.inl ⟨by rfl, ?_⟩) hHeld ?_ ?_
                    rotate_left
                    · rintro w' ⟨s0, s1, s2, s3, s4, s5, s6, s7⟩
                      go_simp
                      with_reducible rfl
                    rotate_left
                    · simp only [Act.put, List.setIfInBounds_toArray, List.set_cons_zero, List.set_cons_succ, i64_w, i32_w]
                      rfl
                    refine take_ (i := 3) (N := some 41) (v := ?_) (a' := ?_) #[true, true, true, true, false, false, false, false, false, false, false, false, false, false, false, false, false, false, false, false, false, false, false, false, false, false, false, false] rfl rfl (take_ofW HT_.out HW_.out (by kernel_rfl)) (fun _ _ _ h => h) (Or.inl ⟨by rfl, ?_⟩) hHeld ?_ ?_
                    rotate_left
                    · rintro w' ⟨s0, s1, s2, s3, s4, s5, s6, s7⟩
                      go_simp
                      with_reducible rfl
                    rotate_left
                    · simp only [Act.put, List.setIfInBounds_toArray, List.set_cons_zero, List.set_cons_succ, i64_w, i32_w]
                      rfl
                    refine one_ (i := 4) (N := some 42) #[true, true, true, true, true, false, false, false, false, false, false, false, false, false, false, false, false, false, false, false, false, false, false, false, false, false, false, false] rfl rfl (one_of HT_.out (by kernel_rfl)) (by decide) (fun K hK => ?_)
                    refine goes_ Try.func51 (by kernel_rfl) rfl #[.agg #[.int .i64 a0_0, .string a0_1, .slice A0_2 l0_2.length c0_2, .slice A0_3 l0_3.length c0_3], .agg #[.int .i64 a0_0, .string x508001_19, .slice Ax_2 lx_2.length cx_2, .slice Ax_3 lx_3.length cx_3]] (by rfl) rfl rfl (by (try simp only [List.map_toArray, List.map_cons, List.map_nil]); first | done | rfl | (simp only [List.length_drop, List.length_take]; rfl)) ?_
                    with_reducible refine (value_Same.calls kj19 a0_0 a0_1 _ _ l0_2 _ _ l0_3 a0_0 x508001_19 _ _ lx_2 _ _ lx_3 true _ ?side1 ?side2 ?side3 ?side4 ?side5 ?side6 ?side7 ?side8 A37.out).mono ?_
                    (case side1 => repeat (first | exact (Kd.C_below HR0_2.out HB.out) | (with_reducible refine Kd.C_alloc ?_ _) | (with_reducible refine Kd.C_drewN ?_ _) | (with_reducible refine Kd.C_drew ?_)))
                    (case side2 => exact HC0_2.out)
                    (case side3 => repeat (first | exact (Kd.C_below HR0_3.out HB.out) | (with_reducible refine Kd.C_alloc ?_ _) | (with_reducible refine Kd.C_drewN ?_ _) | (with_reducible refine Kd.C_drew ?_)))
                    (case side4 => exact HC0_3.out)
                    (case side5 => repeat (first | exact (Kd.C_below HRx_2.out HB.out) | (with_reducible refine Kd.C_alloc ?_ _) | (with_reducible refine Kd.C_drewN ?_ _) | (with_reducible refine Kd.C_drew ?_)))
                    (case side6 => exact HCx_2.out)
                    (case side7 => repeat (first | exact (Kd.C_below HRx_3.out HB.out) | (with_reducible refine Kd.C_alloc ?_ _) | (with_reducible refine Kd.C_drewN ?_ _) | (with_reducible refine Kd.C_drew ?_)))
                    (case side8 => exact HCx_3.out)
                    rintro e w49 ⟨rfl, hb⟩
                    refine ⟨_, rfl, ?_⟩
                    have n0_ := Aside0.mk (blk_below (g := gb502) (o := .cells #[.int .i64 a0_0, .string a0_1, .slice A0_2 l0_2.length c0_2, .slice A0_3 l0_3.length c0_3] 52 (0, 0)) (by (with_reducible repeat (first | refine blk_drewN ?_ _ | refine blk_drew ?_ | refine blk_alloc ?_ _)); exact BK502.out) hb)
                    have n1_ := Aside0.mk (blk_below (g := gb503) (o := .cells #[.int .i64 a1_0, .string a1_1, .slice A1_2 l1_2.length c1_2, .slice A1_3 l1_3.length c1_3] 52 (0, 0)) (by (with_reducible repeat (first | refine blk_drewN ?_ _ | refine blk_drew ?_ | refine blk_alloc ?_ _)); exact BK503.out) hb)
                    have n2_ := Aside0.mk (blk_below (g := gb507) (o := .cells #[.int .i64 a0_0, .string x508001_19, .slice Ax_2 lx_2.length cx_2, .slice Ax_3 lx_3.length cx_3] 52 (0, 0)) (by (with_reducible repeat (first | refine blk_drewN ?_ _ | refine blk_drew ?_ | refine blk_alloc ?_ _)); exact BK507.out) hb)
                    have n3_ := Aside0.mk (below_step (by repeat (first | (with_reducible first | exact HB.out | apply below_alloc | apply pw_below_drewN | apply below_drew1 | refine below_set ?_ GE502.out | refine below_set ?_ GE503.out | refine below_set ?_ GE507.out) | exact HB.out)) hb)
                    clear BK502
                    clear BK503
                    clear BK507
                    clear HB
                    have BK502 := n0_
                    have BK503 := n1_
                    have BK507 := n2_
                    have HB := n3_
                    clear n0_ n1_ n2_ n3_
                    (try clear hb)
                    (try clear hb2)
                    (try clear hk)
                    (try clear hi)
                    refine hK.out _ _ ⟨(blk_cell BK502.out 0).trans rfl, (blk_cell BK502.out 1).trans rfl, (blk_cell BK502.out 2).trans rfl, (blk_cell BK502.out 3).trans rfl, (blk_cell BK507.out 0).trans rfl, (blk_cell BK507.out 1).trans rfl, (blk_cell BK507.out 2).trans rfl, (blk_cell BK507.out 3).trans rfl⟩ (fun hHeld => ?_)
                    clear hK K
                    refine norm_ (a' := ?_) ?_ ?_
                    rotate_left
                    · show Act.put _ (some 42) _ = _
                      simp only [Act.put, List.setIfInBounds_toArray, List.set_cons_zero, List.set_cons_succ, i64_w, i32_w]
                      rfl
                    refine pure_ (i := 5) (N := some 43) (v := ?_) (a' := ?_) #[true, true, true, true, true, true, false, false, false, false, false, false, false, false, false, false, false, false, false, false, false, false, false, false, false, false, false, false] rfl rfl (any_of HT_.out (by kernel_rfl)) (fun _ _ _ h => h) (Or.inl ⟨by rfl, ?_⟩) ?_ ?_
                    rotate_left
                    · intro w'
                      go_simp
                      with_reducible rfl
                    rotate_left
                    · simp only [Act.put, List.setIfInBounds_toArray, List.set_cons_zero, List.set_cons_succ, i64_w, i32_w]
                      rfl
                    refine pure_ (i := 6) (N := some 44) (v := ?_) (a' := ?_) #[true, true, true, true, true, true, true, false, false, false, false, false, false, false, false, false, false, false, false, false, false, false, false, false, false, false, false, false] rfl rfl (any_of HT_.out (by kernel_rfl)) (fun _ _ _ h => h) (Or.inl ⟨by rfl, ?_⟩) ?_ ?_
                    rotate_left
                    · intro w'
                      go_simp
                      with_reducible rfl
                    rotate_left
                    · simp only [Act.put, List.setIfInBounds_toArray, List.set_cons_zero, List.set_cons_succ, i64_w, i32_w]
                      rfl
                    refine take_ (i := 7) (N := some 45) (v := ?_) (a' := ?_) #[true, true, true, true, true, true, true, true, false, false, false, false, false, false, false, false, false, false, false, false, false, false, false, false, false, false, false, false] rfl rfl (take_ofW HT_.out HW_.out (by kernel_rfl)) (fun _ _ _ h => h) (Or.inl ⟨by rfl, ?_⟩) hHeld ?_ ?_
                    rotate_left
                    · rintro w' ⟨s0, s1, s2, s3, s4, s5, s6, s7⟩
                      go_simp
                      with_reducible rfl
                    rotate_left
                    · simp only [Act.put, List.setIfInBounds_toArray, List.set_cons_zero, List.set_cons_succ, i64_w, i32_w]
                      rfl
                    refine take_ (i := 9) (N := some 47) (v := ?_) (a' := ?_) #[true, true, true, true, true, true, true, true, false, true, false, false, false, false, false, false, false, false, false, false, false, false, false, false, false, false, false, false] rfl rfl (take_ofW HT_.out HW_.out (by kernel_rfl)) (fun _ _ _ h => h) (Or.inl ⟨by rfl, ?_⟩) hHeld ?_ ?_
                    rotate_left
                    · rintro w' ⟨s0, s1, s2, s3, s4, s5, s6, s7⟩
                      go_simp
                      with_reducible rfl
                    rotate_left
                    · simp only [Act.put, List.setIfInBounds_toArray, List.set_cons_zero, List.set_cons_succ, i64_w, i32_w]
                      rfl
                    refine one_ (i := 8) (N := some 46) #[true, true, true, true, true, true, true, true, true, true, false, false, false, false, false, false, false, false, false, false, false, false, false, false, false, false, false, false] rfl rfl (one_of HT_.out (by kernel_rfl)) (by decide) (fun K hK => ?_)
                    refine goes_ Try.func53 (by kernel_rfl) rfl #[.agg #[.int .i64 a0_0, .string a0_1, .slice A0_2 l0_2.length c0_2, .slice A0_3 l0_3.length c0_3]] (by rfl) rfl rfl (by (try simp only [List.map_toArray, List.map_cons, List.map_nil]); first | done | rfl | (simp only [List.length_drop, List.length_take]; rfl)) ?_
                    with_reducible refine (value_Defined.calls kj19 a0_0 a0_1 _ _ l0_2 _ _ l0_3 t509 _ ?side1 ?side2 ?side3 ?side4 A39.out).mono ?_
                    (case side1 => repeat (first | exact (Kd.C_below HR0_2.out HB.out) | (with_reducible refine Kd.C_alloc ?_ _) | (with_reducible refine Kd.C_drewN ?_ _) | (with_reducible refine Kd.C_drew ?_)))
                    (case side2 => exact HC0_2.out)
                    (case side3 => repeat (first | exact (Kd.C_below HR0_3.out HB.out) | (with_reducible refine Kd.C_alloc ?_ _) | (with_reducible refine Kd.C_drewN ?_ _) | (with_reducible refine Kd.C_drew ?_)))
                    (case side4 => exact HC0_3.out)
                    rintro e w50 ⟨rfl, hb⟩
                    refine ⟨_, rfl, ?_⟩
                    have n0_ := Aside0.mk (blk_below (g := gb502) (o := .cells #[.int .i64 a0_0, .string a0_1, .slice A0_2 l0_2.length c0_2, .slice A0_3 l0_3.length c0_3] 52 (0, 0)) (by (with_reducible repeat (first | refine blk_drewN ?_ _ | refine blk_drew ?_ | refine blk_alloc ?_ _)); exact BK502.out) hb)
                    have n1_ := Aside0.mk (blk_below (g := gb503) (o := .cells #[.int .i64 a1_0, .string a1_1, .slice A1_2 l1_2.length c1_2, .slice A1_3 l1_3.length c1_3] 52 (0, 0)) (by (with_reducible repeat (first | refine blk_drewN ?_ _ | refine blk_drew ?_ | refine blk_alloc ?_ _)); exact BK503.out) hb)
                    have n2_ := Aside0.mk (blk_below (g := gb507) (o := .cells #[.int .i64 a0_0, .string x508001_19, .slice Ax_2 lx_2.length cx_2, .slice Ax_3 lx_3.length cx_3] 52 (0, 0)) (by (with_reducible repeat (first | refine blk_drewN ?_ _ | refine blk_drew ?_ | refine blk_alloc ?_ _)); exact BK507.out) hb)
                    have n3_ := Aside0.mk (below_step (by repeat (first | (with_reducible first | exact HB.out | apply below_alloc | apply pw_below_drewN | apply below_drew1 | refine below_set ?_ GE502.out | refine below_set ?_ GE503.out | refine below_set ?_ GE507.out) | exact HB.out)) hb)
                    clear BK502
                    clear BK503
                    clear BK507
                    clear HB
                    have BK502 := n0_
                    have BK503 := n1_
                    have BK507 := n2_
                    have HB := n3_
                    clear n0_ n1_ n2_ n3_
                    (try clear hb)
                    (try clear hb2)
                    (try clear hk)
                    (try clear hi)
                    refine hK.out _ _ ⟨(blk_cell BK502.out 0).trans rfl, (blk_cell BK502.out 1).trans rfl, (blk_cell BK502.out 2).trans rfl, (blk_cell BK502.out 3).trans rfl, (blk_cell BK507.out 0).trans rfl, (blk_cell BK507.out 1).trans rfl, (blk_cell BK507.out 2).trans rfl, (blk_cell BK507.out 3).trans rfl⟩ (fun hHeld => ?_)
                    clear hK K
                    refine norm_ (a' := ?_) ?_ ?_
                    rotate_left
                    · show Act.put _ (some 46) _ = _
                      simp only [Act.put, List.setIfInBounds_toArray, List.set_cons_zero, List.set_cons_succ, i64_w, i32_w]
                      rfl
                    refine one_ (i := 10) (N := some 48) #[true, true, true, true, true, true, true, true, true, true, true, false, false, false, false, false, false, false, false, false, false, false, false, false, false, false, false, false] rfl rfl (one_of HT_.out (by kernel_rfl)) (by decide) (fun K hK => ?_)
                    refine goes_ Try.func53 (by kernel_rfl) rfl #[.agg #[.int .i64 a0_0, .string x508001_19, .slice Ax_2 lx_2.length cx_2, .slice Ax_3 lx_3.length cx_3]] (by rfl) rfl rfl (by (try simp only [List.map_toArray, List.map_cons, List.map_nil]); first | done | rfl | (simp only [List.length_drop, List.length_take]; rfl)) ?_
                    with_reducible refine (value_Defined.calls kj19 a0_0 x508001_19 _ _ lx_2 _ _ lx_3 t510 _ ?side1 ?side2 ?side3 ?side4 A40.out).mono ?_
                    (case side1 => repeat (first | exact (Kd.C_below HRx_2.out HB.out) | (with_reducible refine Kd.C_alloc ?_ _) | (with_reducible refine Kd.C_drewN ?_ _) | (with_reducible refine Kd.C_drew ?_)))
                    (case side2 => exact HCx_2.out)
                    (case side3 => repeat (first | exact (Kd.C_below HRx_3.out HB.out) | (with_reducible refine Kd.C_alloc ?_ _) | (with_reducible refine Kd.C_drewN ?_ _) | (with_reducible refine Kd.C_drew ?_)))
                    (case side4 => exact HCx_3.out)
                    rintro e w51 ⟨rfl, hb⟩
                    refine ⟨_, rfl, ?_⟩
                    have n0_ := Aside0.mk (blk_below (g := gb502) (o := .cells #[.int .i64 a0_0, .string a0_1, .slice A0_2 l0_2.length c0_2, .slice A0_3 l0_3.length c0_3] 52 (0, 0)) (by (with_reducible repeat (first | refine blk_drewN ?_ _ | refine blk_drew ?_ | refine blk_alloc ?_ _)); exact BK502.out) hb)
                    have n1_ := Aside0.mk (blk_below (g := gb503) (o := .cells #[.int .i64 a1_0, .string a1_1, .slice A1_2 l1_2.length c1_2, .slice A1_3 l1_3.length c1_3] 52 (0, 0)) (by (with_reducible repeat (first | refine blk_drewN ?_ _ | refine blk_drew ?_ | refine blk_alloc ?_ _)); exact BK503.out) hb)
                    have n2_ := Aside0.mk (blk_below (g := gb507) (o := .cells #[.int .i64 a0_0, .string x508001_19, .slice Ax_2 lx_2.length cx_2, .slice Ax_3 lx_3.length cx_3] 52 (0, 0)) (by (with_reducible repeat (first | refine blk_drewN ?_ _ | refine blk_drew ?_ | refine blk_alloc ?_ _)); exact BK507.out) hb)
                    have n3_ := Aside0.mk (below_step (by repeat (first | (with_reducible first | exact HB.out | apply below_alloc | apply pw_below_drewN | apply below_drew1 | refine below_set ?_ GE502.out | refine below_set ?_ GE503.out | refine below_set ?_ GE507.out) | exact HB.out)) hb)
                    clear BK502
                    clear BK503
                    clear BK507
                    clear HB
                    have BK502 := n0_
                    have BK503 := n1_
                    have BK507 := n2_
                    have HB := n3_
                    clear n0_ n1_ n2_ n3_
                    (try clear hb)
                    (try clear hb2)
                    (try clear hk)
                    (try clear hi)
                    refine hK.out _ _ ⟨(blk_cell BK502.out 0).trans rfl, (blk_cell BK502.out 1).trans rfl, (blk_cell BK502.out 2).trans rfl, (blk_cell BK502.out 3).trans rfl, (blk_cell BK507.out 0).trans rfl, (blk_cell BK507.out 1).trans rfl, (blk_cell BK507.out 2).trans rfl, (blk_cell BK507.out 3).trans rfl⟩ (fun hHeld => ?_)
                    clear hK K
                    refine norm_ (a' := ?_) ?_ ?_
                    rotate_left
                    · show Act.put _ (some 48) _ = _
                      simp only [Act.put, List.setIfInBounds_toArray, List.set_cons_zero, List.set_cons_succ, i64_w, i32_w]
                      rfl
                    refine pure_ (i := 11) (N := some 49) (v := ?_) (a' := ?_) #[true, true, true, true, true, true, true, true, true, true, true, true, false, false, false, false, false, false, false, false, false, false, false, false, false, false, false, false] rfl rfl (any_of HT_.out (by kernel_rfl)) (fun _ _ _ h => h) (Or.inl ⟨by rfl, ?_⟩) ?_ ?_
                    rotate_left
                    · intro w'
                      go_simp
                      with_reducible rfl
                    rotate_left
                    · simp only [Act.put, List.setIfInBounds_toArray, List.set_cons_zero, List.set_cons_succ, i64_w, i32_w]
                      rfl
                    refine pure_ (i := 12) (N := some 50) (v := ?_) (a' := ?_) #[true, true, true, true, true, true, true, true, true, true, true, true, true, false, false, false, false, false, false, false, false, false, false, false, false, false, false, false] rfl rfl (any_of HT_.out (by kernel_rfl)) (fun _ _ _ h => h) (Or.inl ⟨by rfl, ?_⟩) ?_ ?_
                    rotate_left
                    · intro w'
                      go_simp
                      with_reducible rfl
                    rotate_left
                    · simp only [Act.put, List.setIfInBounds_toArray, List.set_cons_zero, List.set_cons_succ, i64_w, i32_w]
                      rfl
                    refine pure_ (i := 13) (N := some 51) (v := ?_) (a' := ?_) #[true, true, true, true, true, true, true, true, true, true, true, true, true, true, false, false, false, false, false, false, false, false, false, false, false, false, false, false] rfl rfl (any_of HT_.out (by kernel_rfl)) (fun _ _ _ h => h) (Or.inl ⟨by rfl, ?_⟩) ?_ ?_
                    rotate_left
                    · intro w'
                      go_simp
                      with_reducible rfl
                    rotate_left
                    · simp only [Act.put, List.setIfInBounds_toArray, List.set_cons_zero, List.set_cons_succ, i64_w, i32_w]
                      rfl
                    refine take_ (i := 14) (N := some 52) (v := ?_) (a' := ?_) #[true, true, true, true, true, true, true, true, true, true, true, true, true, true, true, false, false, false, false, false, false, false, false, false, false, false, false, false] rfl rfl (take_ofW HT_.out HW_.out (by kernel_rfl)) (fun _ _ _ h => h) (Or.inl ⟨by rfl, ?_⟩) hHeld ?_ ?_
                    rotate_left
                    · rintro w' ⟨s0, s1, s2, s3, s4, s5, s6, s7⟩
                      go_simp
                      with_reducible rfl
                    rotate_left
                    · simp only [Act.put, List.setIfInBounds_toArray, List.set_cons_zero, List.set_cons_succ, i64_w, i32_w]
                      rfl
                    refine take_ (i := 16) (N := some 54) (v := ?_) (a' := ?_) #[true, true, true, true, true, true, true, true, true, true, true, true, true, true, true, false, true, false, false, false, false, false, false, false, false, false, false, false] rfl rfl (take_ofW HT_.out HW_.out (by kernel_rfl)) (fun _ _ _ h => h) (Or.inl ⟨by rfl, ?_⟩) hHeld ?_ ?_
                    rotate_left
                    · rintro w' ⟨s0, s1, s2, s3, s4, s5, s6, s7⟩
                      go_simp
                      with_reducible rfl
                    rotate_left
                    · simp only [Act.put, List.setIfInBounds_toArray, List.set_cons_zero, List.set_cons_succ, i64_w, i32_w]
                      rfl
                    refine one_ (i := 15) (N := some 53) #[true, true, true, true, true, true, true, true, true, true, true, true, true, true, true, true, true, false, false, false, false, false, false, false, false, false, false, false] rfl rfl (one_of HT_.out (by kernel_rfl)) (by decide) (fun K hK => ?_)
                    refine goes_ Try.func56 (by kernel_rfl) rfl #[.agg #[.int .i64 a0_0, .string a0_1, .slice A0_2 l0_2.length c0_2, .slice A0_3 l0_3.length c0_3]] (by rfl) rfl rfl (by (try simp only [List.map_toArray, List.map_cons, List.map_nil]); first | done | rfl | (simp only [List.length_drop, List.length_take]; rfl)) ?_
                    with_reducible refine (value_Valid.calls a0_0 a0_1 _ _ l0_2 _ _ l0_3 t511 _ ?side1 ?side2 ?side3 ?side4 A42.out).mono ?_
                    (case side1 => repeat (first | exact (Kd.C_below HR0_2.out HB.out) | (with_reducible refine Kd.C_alloc ?_ _) | (with_reducible refine Kd.C_drewN ?_ _) | (with_reducible refine Kd.C_drew ?_)))
                    (case side2 => exact HC0_2.out)
                    (case side3 => repeat (first | exact (Kd.C_below HR0_3.out HB.out) | (with_reducible refine Kd.C_alloc ?_ _) | (with_reducible refine Kd.C_drewN ?_ _) | (with_reducible refine Kd.C_drew ?_)))
                    (case side4 => exact HC0_3.out)
                    rintro e w52 ⟨rfl, hb⟩
                    refine ⟨_, rfl, ?_⟩
                    have n0_ := Aside0.mk (blk_below (g := gb502) (o := .cells #[.int .i64 a0_0, .string a0_1, .slice A0_2 l0_2.length c0_2, .slice A0_3 l0_3.length c0_3] 52 (0, 0)) (by (with_reducible repeat (first | refine blk_drewN ?_ _ | refine blk_drew ?_ | refine blk_alloc ?_ _)); exact BK502.out) hb)
                    have n1_ := Aside0.mk (blk_below (g := gb503) (o := .cells #[.int .i64 a1_0, .string a1_1, .slice A1_2 l1_2.length c1_2, .slice A1_3 l1_3.length c1_3] 52 (0, 0)) (by (with_reducible repeat (first | refine blk_drewN ?_ _ | refine blk_drew ?_ | refine blk_alloc ?_ _)); exact BK503.out) hb)
                    have n2_ := Aside0.mk (blk_below (g := gb507) (o := .cells #[.int .i64 a0_0, .string x508001_19, .slice Ax_2 lx_2.length cx_2, .slice Ax_3 lx_3.length cx_3] 52 (0, 0)) (by (with_reducible repeat (first | refine blk_drewN ?_ _ | refine blk_drew ?_ | refine blk_alloc ?_ _)); exact BK507.out) hb)
                    have n3_ := Aside0.mk (below_step (by repeat (first | (with_reducible first | exact HB.out | apply below_alloc | apply pw_below_drewN | apply below_drew1 | refine below_set ?_ GE502.out | refine below_set ?_ GE503.out | refine below_set ?_ GE507.out) | exact HB.out)) hb)
                    clear BK502
                    clear BK503
                    clear BK507
                    clear HB
                    have BK502 := n0_
                    have BK503 := n1_
                    have BK507 := n2_
                    have HB := n3_
                    clear n0_ n1_ n2_ n3_
                    (try clear hb)
                    (try clear hb2)
                    (try clear hk)
                    (try clear hi)
                    refine hK.out _ _ ⟨(blk_cell BK502.out 0).trans rfl, (blk_cell BK502.out 1).trans rfl, (blk_cell BK502.out 2).trans rfl, (blk_cell BK502.out 3).trans rfl, (blk_cell BK507.out 0).trans rfl, (blk_cell BK507.out 1).trans rfl, (blk_cell BK507.out 2).trans rfl, (blk_cell BK507.out 3).trans rfl⟩ (fun hHeld => ?_)
                    clear hK K
                    refine norm_ (a' := ?_) ?_ ?_
                    rotate_left
                    · show Act.put _ (some 53) _ = _
                      simp only [Act.put, List.setIfInBounds_toArray, List.set_cons_zero, List.set_cons_succ, i64_w, i32_w]
                      rfl
                    refine one_ (i := 17) (N := some 55) #[true, true, true, true, true, true, true, true, true, true, true, true, true, true, true, true, true, true, false, false, false, false, false, false, false, false, false, false] rfl rfl (one_of HT_.out (by kernel_rfl)) (by decide) (fun K hK => ?_)
                    refine goes_ Try.func56 (by kernel_rfl) rfl #[.agg #[.int .i64 a0_0, .string x508001_19, .slice Ax_2 lx_2.length cx_2, .slice Ax_3 lx_3.length cx_3]] (by rfl) rfl rfl (by (try simp only [List.map_toArray, List.map_cons, List.map_nil]); first | done | rfl | (simp only [List.length_drop, List.length_take]; rfl)) ?_
                    with_reducible refine (value_Valid.calls a0_0 x508001_19 _ _ lx_2 _ _ lx_3 t512 _ ?side1 ?side2 ?side3 ?side4 A43.out).mono ?_
                    (case side1 => repeat (first | exact (Kd.C_below HRx_2.out HB.out) | (with_reducible refine Kd.C_alloc ?_ _) | (with_reducible refine Kd.C_drewN ?_ _) | (with_reducible refine Kd.C_drew ?_)))
                    (case side2 => exact HCx_2.out)
                    (case side3 => repeat (first | exact (Kd.C_below HRx_3.out HB.out) | (with_reducible refine Kd.C_alloc ?_ _) | (with_reducible refine Kd.C_drewN ?_ _) | (with_reducible refine Kd.C_drew ?_)))
                    (case side4 => exact HCx_3.out)
                    rintro e w53 ⟨rfl, hb⟩
                    refine ⟨_, rfl, ?_⟩
                    have n0_ := Aside0.mk (blk_below (g := gb502) (o := .cells #[.int .i64 a0_0, .string a0_1, .slice A0_2 l0_2.length c0_2, .slice A0_3 l0_3.length c0_3] 52 (0, 0)) (by (with_reducible repeat (first | refine blk_drewN ?_ _ | refine blk_drew ?_ | refine blk_alloc ?_ _)); exact BK502.out) hb)
                    have n1_ := Aside0.mk (blk_below (g := gb503) (o := .cells #[.int .i64 a1_0, .string a1_1, .slice A1_2 l1_2.length c1_2, .slice A1_3 l1_3.length c1_3] 52 (0, 0)) (by (with_reducible repeat (first | refine blk_drewN ?_ _ | refine blk_drew ?_ | refine blk_alloc ?_ _)); exact BK503.out) hb)
                    have n2_ := Aside0.mk (blk_below (g := gb507) (o := .cells #[.int .i64 a0_0, .string x508001_19, .slice Ax_2 lx_2.length cx_2, .slice Ax_3 lx_3.length cx_3] 52 (0, 0)) (by (with_reducible repeat (first | refine blk_drewN ?_ _ | refine blk_drew ?_ | refine blk_alloc ?_ _)); exact BK507.out) hb)
                    have n3_ := Aside0.mk (below_step (by repeat (first | (with_reducible first | exact HB.out | apply below_alloc | apply pw_below_drewN | apply below_drew1 | refine below_set ?_ GE502.out | refine below_set ?_ GE503.out | refine below_set ?_ GE507.out) | exact HB.out)) hb)
                    clear BK502
                    clear BK503
                    clear BK507
                    clear HB
                    have BK502 := n0_
                    have BK503 := n1_
                    have BK507 := n2_
                    have HB := n3_
                    clear n0_ n1_ n2_ n3_
                    (try clear hb)
                    (try clear hb2)
                    (try clear hk)
                    (try clear hi)
                    refine hK.out _ _ ⟨(blk_cell BK502.out 0).trans rfl, (blk_cell BK502.out 1).trans rfl, (blk_cell BK502.out 2).trans rfl, (blk_cell BK502.out 3).trans rfl, (blk_cell BK507.out 0).trans rfl, (blk_cell BK507.out 1).trans rfl, (blk_cell BK507.out 2).trans rfl, (blk_cell BK507.out 3).trans rfl⟩ (fun hHeld => ?_)
                    clear hK K
                    refine norm_ (a' := ?_) ?_ ?_
                    rotate_left
                    · show Act.put _ (some 55) _ = _
                      simp only [Act.put, List.setIfInBounds_toArray, List.set_cons_zero, List.set_cons_succ, i64_w, i32_w]
                      rfl
                    refine pure_ (i := 18) (N := some 56) (v := ?_) (a' := ?_) #[true, true, true, true, true, true, true, true, true, true, true, true, true, true, true, true, true, true, true, false, false, false, false, false, false, false, false, false] rfl rfl (any_of HT_.out (by kernel_rfl)) (fun _ _ _ h => h) (Or.inl ⟨by rfl, ?_⟩) ?_ ?_
                    rotate_left
                    · intro w'
                      go_simp
                      with_reducible rfl
                    rotate_left
                    · simp only [Act.put, List.setIfInBounds_toArray, List.set_cons_zero, List.set_cons_succ, i64_w, i32_w]
                      rfl
                    refine pure_ (i := 19) (N := some 57) (v := ?_) (a' := ?_) #[true, true, true, true, true, true, true, true, true, true, true, true, true, true, true, true, true, true, true, true, false, false, false, false, false, false, false, false] rfl rfl (any_of HT_.out (by kernel_rfl)) (fun _ _ _ h => h) (Or.inl ⟨by rfl, ?_⟩) ?_ ?_
                    rotate_left
                    · intro w'
                      go_simp
                      with_reducible rfl
                    rotate_left
                    · simp only [Act.put, List.setIfInBounds_toArray, List.set_cons_zero, List.set_cons_succ, i64_w, i32_w]
                      rfl
                    refine pure_ (i := 20) (N := some 58) (v := ?_) (a' := ?_) #[true, true, true, true, true, true, true, true, true, true, true, true, true, true, true, true, true, true, true, true, true, false, false, false, false, false, false, false] rfl rfl (any_of HT_.out (by kernel_rfl)) (fun _ _ _ h => h) (Or.inl ⟨by rfl, ?_⟩) ?_ ?_
                    rotate_left
                    · intro w'
                      go_simp
                      with_reducible rfl
                    rotate_left
                    · simp only [Act.put, List.setIfInBounds_toArray, List.set_cons_zero, List.set_cons_succ, i64_w, i32_w]
                      rfl
                    refine take_ (i := 21) (N := some 59) (v := ?_) (a' := ?_) #[true, true, true, true, true, true, true, true, true, true, true, true, true, true, true, true, true, true, true, true, true, true, false, false, false, false, false, false] rfl rfl (take_ofW HT_.out HW_.out (by kernel_rfl)) (fun _ _ _ h => h) (Or.inl ⟨by rfl, ?_⟩) hHeld ?_ ?_
                    rotate_left
                    · rintro w' ⟨s0, s1, s2, s3, s4, s5, s6, s7⟩
                      go_simp
                      with_reducible rfl
                    rotate_left
                    · simp only [Act.put, List.setIfInBounds_toArray, List.set_cons_zero, List.set_cons_succ, i64_w, i32_w]
                      rfl
                    refine take_ (i := 23) (N := some 61) (v := ?_) (a' := ?_) #[true, true, true, true, true, true, true, true, true, true, true, true, true, true, true, true, true, true, true, true, true, true, false, true, false, false, false, false] rfl rfl (take_ofW HT_.out HW_.out (by kernel_rfl)) (fun _ _ _ h => h) (Or.inl ⟨by rfl, ?_⟩) hHeld ?_ ?_
                    rotate_left
                    · rintro w' ⟨s0, s1, s2, s3, s4, s5, s6, s7⟩
                      go_simp
                      with_reducible rfl
                    rotate_left
                    · simp only [Act.put, List.setIfInBounds_toArray, List.set_cons_zero, List.set_cons_succ, i64_w, i32_w]
                      rfl
                    refine one_ (i := 22) (N := some 60) #[true, true, true, true, true, true, true, true, true, true, true, true, true, true, true, true, true, true, true, true, true, true, true, true, false, false, false, false] rfl rfl (one_of HT_.out (by kernel_rfl)) (by decide) (fun K hK => ?_)
                    refine goes_ Try.func48 (by kernel_rfl) rfl #[.agg #[.int .i64 a0_0, .string a0_1, .slice A0_2 l0_2.length c0_2, .slice A0_3 l0_3.length c0_3]] (by rfl) rfl rfl (by (try simp only [List.map_toArray, List.map_cons, List.map_nil]); first | done | rfl | (simp only [List.length_drop, List.length_take]; rfl)) ?_
                    with_reducible refine (value_Texts.calls kj19 a0_0 a0_1 _ _ l0_2 _ _ l0_3 t513 _ ?side1 ?side2 ?side3 ?side4 A45.out).mono ?_
                    (case side1 => repeat (first | exact (Kd.C_below HR0_2.out HB.out) | (with_reducible refine Kd.C_alloc ?_ _) | (with_reducible refine Kd.C_drewN ?_ _) | (with_reducible refine Kd.C_drew ?_)))
                    (case side2 => exact HC0_2.out)
                    (case side3 => repeat (first | exact (Kd.C_below HR0_3.out HB.out) | (with_reducible refine Kd.C_alloc ?_ _) | (with_reducible refine Kd.C_drewN ?_ _) | (with_reducible refine Kd.C_drew ?_)))
                    (case side4 => exact HC0_3.out)
                    rintro e w54 ⟨v514, rfl, ho0, hb⟩
                    refine ⟨_, rfl, ?_⟩
                    have n0_ := Aside0.mk (Kd.R_lower ho0 (below_size (by repeat (first | (with_reducible first | exact HB.out | apply below_alloc | apply pw_below_drewN | apply below_drew1 | refine below_set ?_ GE502.out | refine below_set ?_ GE503.out | refine below_set ?_ GE507.out) | exact HB.out))))
                    have n1_ := Aside0.mk (blk_below (g := gb502) (o := .cells #[.int .i64 a0_0, .string a0_1, .slice A0_2 l0_2.length c0_2, .slice A0_3 l0_3.length c0_3] 52 (0, 0)) (by (with_reducible repeat (first | refine blk_drewN ?_ _ | refine blk_drew ?_ | refine blk_alloc ?_ _)); exact BK502.out) hb)
                    have n2_ := Aside0.mk (blk_below (g := gb503) (o := .cells #[.int .i64 a1_0, .string a1_1, .slice A1_2 l1_2.length c1_2, .slice A1_3 l1_3.length c1_3] 52 (0, 0)) (by (with_reducible repeat (first | refine blk_drewN ?_ _ | refine blk_drew ?_ | refine blk_alloc ?_ _)); exact BK503.out) hb)
                    have n3_ := Aside0.mk (blk_below (g := gb507) (o := .cells #[.int .i64 a0_0, .string x508001_19, .slice Ax_2 lx_2.length cx_2, .slice Ax_3 lx_3.length cx_3] 52 (0, 0)) (by (with_reducible repeat (first | refine blk_drewN ?_ _ | refine blk_drew ?_ | refine blk_alloc ?_ _)); exact BK507.out) hb)
                    have n4_ := Aside0.mk (below_step (by repeat (first | (with_reducible first | exact HB.out | apply below_alloc | apply pw_below_drewN | apply below_drew1 | refine below_set ?_ GE502.out | refine below_set ?_ GE503.out | refine below_set ?_ GE507.out) | exact HB.out)) hb)
                    clear BK502
                    clear BK503
                    clear BK507
                    clear HB
                    have HO515 := n0_
                    have BK502 := n1_
                    have BK503 := n2_
                    have BK507 := n3_
                    have HB := n4_
                    clear n0_ n1_ n2_ n3_ n4_
                    (try clear hb)
                    (try clear hb2)
                    (try clear hk)
                    (try clear hi)
                    (try clear ho0)
                    refine hK.out _ _ ⟨(blk_cell BK502.out 0).trans rfl, (blk_cell BK502.out 1).trans rfl, (blk_cell BK502.out 2).trans rfl, (blk_cell BK502.out 3).trans rfl, (blk_cell BK507.out 0).trans rfl, (blk_cell BK507.out 1).trans rfl, (blk_cell BK507.out 2).trans rfl, (blk_cell BK507.out 3).trans rfl⟩ (fun hHeld => ?_)
                    clear hK K
                    refine norm_ (a' := ?_) ?_ ?_
                    rotate_left
                    · show Act.put _ (some 60) _ = _
                      simp only [Act.put, List.setIfInBounds_toArray, List.set_cons_zero, List.set_cons_succ, i64_w, i32_w]
                      rfl
                    refine one_ (i := 24) (N := some 62) #[true, true, true, true, true, true, true, true, true, true, true, true, true, true, true, true, true, true, true, true, true, true, true, true, true, false, false, false] rfl rfl (one_of HT_.out (by kernel_rfl)) (by decide) (fun K hK => ?_)
                    refine goes_ Try.func48 (by kernel_rfl) rfl #[.agg #[.int .i64 a0_0, .string x508001_19, .slice Ax_2 lx_2.length cx_2, .slice Ax_3 lx_3.length cx_3]] (by rfl) rfl rfl (by (try simp only [List.map_toArray, List.map_cons, List.map_nil]); first | done | rfl | (simp only [List.length_drop, List.length_take]; rfl)) ?_
                    with_reducible refine (value_Texts.calls kj19 a0_0 x508001_19 _ _ lx_2 _ _ lx_3 t516 _ ?side1 ?side2 ?side3 ?side4 A46.out).mono ?_
                    (case side1 => repeat (first | exact (Kd.C_below HRx_2.out HB.out) | (with_reducible refine Kd.C_alloc ?_ _) | (with_reducible refine Kd.C_drewN ?_ _) | (with_reducible refine Kd.C_drew ?_)))
                    (case side2 => exact HCx_2.out)
                    (case side3 => repeat (first | exact (Kd.C_below HRx_3.out HB.out) | (with_reducible refine Kd.C_alloc ?_ _) | (with_reducible refine Kd.C_drewN ?_ _) | (with_reducible refine Kd.C_drew ?_)))
                    (case side4 => exact HCx_3.out)
                    rintro e w55 ⟨v517, rfl, ho0, hb⟩
                    refine ⟨_, rfl, ?_⟩
                    have n0_ := Aside0.mk (Kd.R_elder' (by (with_reducible repeat (first | apply Kd.R_alloc | apply Kd.R_drewN | apply Kd.R_drew)); exact HO515.out) (Kd.R_base ho0) hb)
                    have n1_ := Aside0.mk (Kd.R_lower (Kd.R_new' ho0 (Kd.R_lt (by (with_reducible repeat (first | apply Kd.R_alloc | apply Kd.R_drewN | apply Kd.R_drew)); exact HO515.out))) (below_size (by repeat (first | (with_reducible first | exact HB.out | apply below_alloc | apply pw_below_drewN | apply below_drew1 | refine below_set ?_ GE502.out | refine below_set ?_ GE503.out | refine below_set ?_ GE507.out) | exact HB.out))))
                    have n2_ := Aside0.mk (blk_below (g := gb502) (o := .cells #[.int .i64 a0_0, .string a0_1, .slice A0_2 l0_2.length c0_2, .slice A0_3 l0_3.length c0_3] 52 (0, 0)) (by (with_reducible repeat (first | refine blk_drewN ?_ _ | refine blk_drew ?_ | refine blk_alloc ?_ _)); exact BK502.out) hb)
                    have n3_ := Aside0.mk (blk_below (g := gb503) (o := .cells #[.int .i64 a1_0, .string a1_1, .slice A1_2 l1_2.length c1_2, .slice A1_3 l1_3.length c1_3] 52 (0, 0)) (by (with_reducible repeat (first | refine blk_drewN ?_ _ | refine blk_drew ?_ | refine blk_alloc ?_ _)); exact BK503.out) hb)
                    have n4_ := Aside0.mk (blk_below (g := gb507) (o := .cells #[.int .i64 a0_0, .string x508001_19, .slice Ax_2 lx_2.length cx_2, .slice Ax_3 lx_3.length cx_3] 52 (0, 0)) (by (with_reducible repeat (first | refine blk_drewN ?_ _ | refine blk_drew ?_ | refine blk_alloc ?_ _)); exact BK507.out) hb)
                    have n5_ := Aside0.mk (below_step (by repeat (first | (with_reducible first | exact HB.out | apply below_alloc | apply pw_below_drewN | apply below_drew1 | refine below_set ?_ GE502.out | refine below_set ?_ GE503.out | refine below_set ?_ GE507.out) | exact HB.out)) hb)
                    clear HO515
                    clear BK502
                    clear BK503
                    clear BK507
                    clear HB
                    have HO515 := n0_
                    have HO518 := n1_
                    have BK502 := n2_
                    have BK503 := n3_
                    have BK507 := n4_
                    have HB := n5_
                    clear n0_ n1_ n2_ n3_ n4_ n5_
                    (try clear hb)
                    (try clear hb2)
                    (try clear hk)
                    (try clear hi)
                    (try clear ho0)
                    obtain ⟨Ao56, co56, eo56⟩ := Kd.R_slice HO515.out
                    (first | subst eo56 | (injection eo56 with f1_ f2_ f3_; have f4_ := f1_.symm; have f5_ := f3_.symm; clear f1_ f2_ f3_; subst f4_; subst f5_))
                    obtain ⟨Ao57, co57, eo57⟩ := Kd.R_slice HO518.out
                    (first | subst eo57 | (injection eo57 with f1_ f2_ f3_; have f4_ := f1_.symm; have f5_ := f3_.symm; clear f1_ f2_ f3_; subst f4_; subst f5_))
                    refine hK.out _ _ ⟨(blk_cell BK502.out 0).trans rfl, (blk_cell BK502.out 1).trans rfl, (blk_cell BK502.out 2).trans rfl, (blk_cell BK502.out 3).trans rfl, (blk_cell BK507.out 0).trans rfl, (blk_cell BK507.out 1).trans rfl, (blk_cell BK507.out 2).trans rfl, (blk_cell BK507.out 3).trans rfl⟩ (fun hHeld => ?_)
                    clear hK K
                    refine norm_ (a' := ?_) ?_ ?_
                    rotate_left
                    · show Act.put _ (some 62) _ = _
                      simp only [Act.put, List.setIfInBounds_toArray, List.set_cons_zero, List.set_cons_succ, i64_w, i32_w]
                      rfl
                    refine one_ (i := 25) (N := some 63) #[true, true, true, true, true, true, true, true, true, true, true, true, true, true, true, true, true, true, true, true, true, true, true, true, true, true, false, false] rfl rfl (one_of HT_.out (by kernel_rfl)) (by decide) (fun K hK => ?_)
                    refine goes_ Try.func47 (by kernel_rfl) rfl #[.slice Ao56 t513.length co56, .slice Ao57 t516.length co57] (by rfl) rfl rfl (by (try simp only [List.map_toArray, List.map_cons, List.map_nil]); first | done | rfl | (simp only [List.length_drop, List.length_take]; rfl)) ?_
                    with_reducible refine (phalaroperef05_Texts.calls kj19 _ _ t513 _ _ t516 t519 _ ?side1 ?side2 ?side3 ?side4 A47.out).mono ?_
                    (case side1 => repeat (first | exact (Kd.R_reads' HO515.out).2.2 | (with_reducible refine Kd.C_alloc ?_ _) | (with_reducible refine Kd.C_drewN ?_ _) | (with_reducible refine Kd.C_drew ?_)))
                    (case side2 => exact (Kd.R_reads' HO515.out).2.1)
                    (case side3 => repeat (first | exact (Kd.R_reads' HO518.out).2.2 | (with_reducible refine Kd.C_alloc ?_ _) | (with_reducible refine Kd.C_drewN ?_ _) | (with_reducible refine Kd.C_drew ?_)))
                    (case side4 => exact (Kd.R_reads' HO518.out).2.1)
                    rintro e w' ⟨rfl, ⟨nd, rfl⟩⟩
                    refine ⟨_, rfl, ?_⟩
                    refine hK.out _ _ ⟨(blk_cell BK502.out 0).trans rfl, (blk_cell BK502.out 1).trans rfl, (blk_cell BK502.out 2).trans rfl, (blk_cell BK502.out 3).trans rfl, (blk_cell BK507.out 0).trans rfl, (blk_cell BK507.out 1).trans rfl, (blk_cell BK507.out 2).trans rfl, (blk_cell BK507.out 3).trans rfl⟩ (fun hHeld => ?_)
                    clear hK K
                    refine norm_ (a' := ?_) ?_ ?_
                    rotate_left
                    · show Act.put _ (some 63) _ = _
                      simp only [Act.put, List.setIfInBounds_toArray, List.set_cons_zero, List.set_cons_succ, i64_w, i32_w]
                      rfl
                    refine pure_ (i := 26) (N := some 64) (v := ?_) (a' := ?_) #[true, true, true, true, true, true, true, true, true, true, true, true, true, true, true, true, true, true, true, true, true, true, true, true, true, true, true, false] rfl rfl (any_of HT_.out (by kernel_rfl)) (fun _ _ _ h => h) (Or.inl ⟨by rfl, ?_⟩) ?_ ?_
                    rotate_left
                    · intro w'
                      go_simp
                      with_reducible rfl
                    rotate_left
                    · simp only [Act.put, List.setIfInBounds_toArray, List.set_cons_zero, List.set_cons_succ, i64_w, i32_w]
                      rfl
                    refine pure_ (i := 27) (N := some 4) (v := ?_) (a' := ?_) #[true, true, true, true, true, true, true, true, true, true, true, true, true, true, true, true, true, true, true, true, true, true, true, true, true, true, true, true] rfl rfl (any_of HT_.out (by kernel_rfl)) (fun _ _ _ h => h) (Or.inl ⟨by rfl, ?_⟩) ?_ ?_
                    rotate_left
                    · intro w'
                      go_simp
                      with_reducible rfl
                    rotate_left
                    · simp only [Act.put, List.setIfInBounds_toArray, List.set_cons_zero, List.set_cons_succ, i64_w, i32_w]
                      rfl
                    refine done_ (done_of HT_.out (by kernel_rfl)) ?_
                    try go_wp2
                    go_ret
                    exact ⟨by first | rfl | (simp [errW_none, errW_some] <;> rfl) | (simp [*, errW_none, errW_some] <;> rfl), by repeat (first | (with_reducible first | exact HB.out | apply below_alloc | apply pw_below_drewN | apply below_drew1 | refine below_set ?_ GE502.out | refine below_set ?_ GE503.out | refine below_set ?_ GE507.out) | exact HB.out)⟩
                  · rw [if_neg c44] at H
                    have c44b0 : (t511 == t512) = false := by simpa using c44
                    (try (have c44b1 : decide (t511 = t512) = false := by simpa using c44))
                    (try (have c44b2 : (t511 == t512) = false := by simpa using c44))
                    (try (have c44b3 : ¬ (t511 = t512) := by simpa using c44))
                    clear c44
                    exact absurd HRT.out (by rw [← Option.some.inj H]; decide)
                · rw [if_neg c41] at H
                  have c41b0 : (t509 == t510) = false := by simpa using c41
                  (try (have c41b1 : decide (t509 = t510) = false := by simpa using c41))
                  (try (have c41b2 : (t509 == t510) = false := by simpa using c41))
                  (try (have c41b3 : ¬ (t509 = t510) := by simpa using c41))
                  clear c41
                  exact absurd HRT.out (by rw [← Option.some.inj H]; decide)
              · replace c38 := Bool.eq_false_iff.mpr c38
                subst c38
                have H1 : (some false) = some r := by rw [if_neg (show ¬ (false = true) by decide)] at H; exact H
                clear H
                have H := H1
                clear H1
                exact absurd HRT.out (by rw [← Option.some.inj H]; decide)
            · replace c36 := Bool.eq_false_iff.mpr c36
              subst c36
              have H1 : (some false) = some r := by rw [if_neg (show ¬ (false = true) by decide)] at H; exact H
              clear H
              have H := H1
              clear H1
              exact absurd HRT.out (by rw [← Option.some.inj H]; decide)end Go.Proofs.Ytjjmfmlgemdjkaa.PVal

