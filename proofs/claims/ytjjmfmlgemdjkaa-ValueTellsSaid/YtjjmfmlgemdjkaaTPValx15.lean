/- What the kit's print.py wrote of this seat's functions (PValx15); what the proofs here need. -/
import Derived.Test.YtjjmfmlgemdjkaaTPValx0
import Derived.Test.YtjjmfmlgemdjkaaTPValx10
import Derived.Test.YtjjmfmlgemdjkaaTPValx11
import Derived.Test.YtjjmfmlgemdjkaaTPValx13
import Derived.Test.YtjjmfmlgemdjkaaTPValx14
namespace Go.Proofs.Ytjjmfmlgemdjkaa.PVal
open Go.RowKit Go.Proofs.YtjjmfmlgemdjkaaW.PrintWords Go.Proofs.YtjjmfmlgemdjkaaW.PrintLast Go.Proofs.YtjjmfmlgemdjkaaW.PrintMore
attribute [local go_sem] max2_int min2_int max_two min_two max_three min_three max_four min_four   -- for this text's walks alone
set_option linter.unusedVariables false
set_option linter.unusedSimpArgs false

def phalaroperef08_Compare.j0 : Nat → Bool → Int → ByteArray → List ByteArray → List (S76) → Int → ByteArray → List ByteArray → List (S76) → Option (Int)
  | 0, _, _, _, _, _, _, _, _, _ => none
  | k + 1, x29, x398000, x398001, x398002, x398003, x399000, x399001, x399002, x399003 => if x29 = true then (some (-1)) else ((phalaroperef08_Same.f k x398000 x398001 x398002 x398003 x399000 x399001 x399002 x399003).bind fun t424 => (if t424 = true then (some 0) else (some 1)))
def phalaroperef08_Compare.f (k : Nat) (a0_0 : Int) (a0_1 : ByteArray) (l0_2 : List ByteArray) (l0_3 : List (S76)) (a1_0 : Int) (a1_1 : ByteArray) (l1_2 : List ByteArray) (l1_3 : List (S76)) : Option (Int) := (phalaroperef08_Canon.f k a0_0 a0_1 l0_2 l0_3).bind fun bt399 => ((phalaroperef08_Canon.f k a1_0 a1_1 l1_2 l1_3).bind fun bt408 => (if bt399.1 < bt408.1 then (phalaroperef08_Compare.j0 k true a0_0 a0_1 l0_2 l0_3 a1_0 a1_1 l1_2 l1_3) else (if bt399.1 = bt408.1 then ((phalaroperef08_Texts.f k bt399.1 bt399.2.1 bt399.2.2.1 bt399.2.2.2).bind fun t417 => ((phalaroperef08_Texts.f k bt408.1 bt408.2.1 bt408.2.2.1 bt408.2.2.2).bind fun t420 => ((phalaroperef08_less.f k t417 t420).bind fun t423 => (phalaroperef08_Compare.j0 k t423 a0_0 a0_1 l0_2 l0_3 a1_0 a1_1 l1_2 l1_3)))) else (phalaroperef08_Compare.j0 k false a0_0 a0_1 l0_2 l0_3 a1_0 a1_1 l1_2 l1_3))))
def phalaroperef08_Compare.T3 : Bool × List (List Nat × List Nat) := (true, [([], []), ([0], [0]), ([], []), ([2], [2]), ([1, 3], [1, 3]), ([4], [4]), ([5], [5]), ([6, 5], [5, 6]), ([5], [5]), ([8, 5], [5, 8]), ([7, 9, 5], [5, 7, 9]), ([10, 5, 5], [5, 10]), ([11], [11]), ([12, 11, 11], [11, 12]), ([11], [11]), ([14, 13, 11], [11, 14]), ([13, 15, 15, 11], [11, 13, 15]), ([11, 16, 5], [5, 11, 16]), ([5, 17], [5, 17])])
def phalaroperef08_Compare.B3 : List Nat := [0, 1, 0, 4, 15, 31, 63, 127, 63, 319, 1023, 2047, 4095, 8191, 4095, 32767, 65535, 131071, 262143]
theorem phalaroperef08_Compare.tab3 : rtab .any (opsOf Try.f58 3) = phalaroperef08_Compare.T3 := by kernel_rfl
theorem phalaroperef08_Compare.bits3 : waitsOk phalaroperef08_Compare.T3.2 phalaroperef08_Compare.B3 = true := by kernel_rfl
set_option maxHeartbeats 8000000 in
set_option maxRecDepth 100000 in
theorem phalaroperef08_Compare.calls (k : Nat) (a0_0 : Int) (a0_1 : ByteArray) (A0_2 : Option Addr) (c0_2 : Nat) (l0_2 : List ByteArray) (A0_3 : Option Addr) (c0_3 : Nat) (l0_3 : List (S76)) (a1_0 : Int) (a1_1 : ByteArray) (A1_2 : Option Addr) (c1_2 : Nat) (l1_2 : List ByteArray) (A1_3 : Option Addr) (c1_3 : Nat) (l1_3 : List (S76)) (r : Int) (w : World) (hr0_2 : Kd.C Kd.string w A0_2 l0_2.length l0_2) (hc0_2 : l0_2.length ≤ c0_2) (hr0_3 : Kd.C k76 w A0_3 l0_3.length l0_3) (hc0_3 : l0_3.length ≤ c0_3) (hr1_2 : Kd.C Kd.string w A1_2 l1_2.length l1_2) (hc1_2 : l1_2.length ≤ c1_2) (hr1_3 : Kd.C k76 w A1_3 l1_3.length l1_3) (hc1_3 : l1_3.length ≤ c1_3) (h : phalaroperef08_Compare.f k a0_0 a0_1 l0_2 l0_3 a1_0 a1_1 l1_2 l1_3 = some r) :
    Calls Try.prog 58 #[.agg #[.int .i64 a0_0, .string a0_1, .slice A0_2 l0_2.length c0_2, .slice A0_3 l0_3.length c0_3], .agg #[.int .i64 a1_0, .string a1_1, .slice A1_2 l1_2.length c1_2, .slice A1_3 l1_3.length c1_3]] w fun e w' => e = .returned (.int .i64 r) ∧ Below w.heap.size w w' := by
  have hu52 := Try.underlying52
  have HR0_2 := Aside0.mk hr0_2
  have HC0_2 := Aside0.mk hc0_2
  clear hr0_2 hc0_2
  have HR0_3 := Aside0.mk hr0_3
  have HC0_3 := Aside0.mk hc0_3
  clear hr0_3 hc0_3
  have HR1_2 := Aside0.mk hr1_2
  have HC1_2 := Aside0.mk hc1_2
  clear hr1_2 hc1_2
  have HR1_3 := Aside0.mk hr1_3
  have HC1_3 := Aside0.mk hc1_3
  clear hr1_3 hc1_3
  have HB := Aside0.mk (Below.refl w.heap.size w)
  have H : ((phalaroperef08_Canon.f k a0_0 a0_1 l0_2 l0_3).bind fun bt399 => ((phalaroperef08_Canon.f k a1_0 a1_1 l1_2 l1_3).bind fun bt408 => (if bt399.1 < bt408.1 then (phalaroperef08_Compare.j0 k true a0_0 a0_1 l0_2 l0_3 a1_0 a1_1 l1_2 l1_3) else (if bt399.1 = bt408.1 then ((phalaroperef08_Texts.f k bt399.1 bt399.2.1 bt399.2.2.1 bt399.2.2.2).bind fun t417 => ((phalaroperef08_Texts.f k bt408.1 bt408.2.1 bt408.2.2.1 bt408.2.2.2).bind fun t420 => ((phalaroperef08_less.f k t417 t420).bind fun t423 => (phalaroperef08_Compare.j0 k t423 a0_0 a0_1 l0_2 l0_3 a1_0 a1_1 l1_2 l1_3)))) else (phalaroperef08_Compare.j0 k false a0_0 a0_1 l0_2 l0_3 a1_0 a1_1 l1_2 l1_3))))) = some r := h
  clear h
  replace H := Option.bind_eq_some_iff.mp H
  obtain ⟨⟨t399, t400, t401, t404⟩, A30, H⟩ := H
  replace H : ((phalaroperef08_Canon.f k a1_0 a1_1 l1_2 l1_3).bind fun bt408 => (if t399 < bt408.1 then (phalaroperef08_Compare.j0 k true a0_0 a0_1 l0_2 l0_3 a1_0 a1_1 l1_2 l1_3) else (if t399 = bt408.1 then ((phalaroperef08_Texts.f k t399 t400 t401 t404).bind fun t417 => ((phalaroperef08_Texts.f k bt408.1 bt408.2.1 bt408.2.2.1 bt408.2.2.2).bind fun t420 => ((phalaroperef08_less.f k t417 t420).bind fun t423 => (phalaroperef08_Compare.j0 k t423 a0_0 a0_1 l0_2 l0_3 a1_0 a1_1 l1_2 l1_3)))) else (phalaroperef08_Compare.j0 k false a0_0 a0_1 l0_2 l0_3 a1_0 a1_1 l1_2 l1_3)))) = some r := H
  have A3 := Aside0.mk A30
  clear A30
  replace H := Option.bind_eq_some_iff.mp H
  obtain ⟨⟨t408, t409, t410, t413⟩, A40, H⟩ := H
  replace H : (if t399 < t408 then (phalaroperef08_Compare.j0 k true a0_0 a0_1 l0_2 l0_3 a1_0 a1_1 l1_2 l1_3) else (if t399 = t408 then ((phalaroperef08_Texts.f k t399 t400 t401 t404).bind fun t417 => ((phalaroperef08_Texts.f k t408 t409 t410 t413).bind fun t420 => ((phalaroperef08_less.f k t417 t420).bind fun t423 => (phalaroperef08_Compare.j0 k t423 a0_0 a0_1 l0_2 l0_3 a1_0 a1_1 l1_2 l1_3)))) else (phalaroperef08_Compare.j0 k false a0_0 a0_1 l0_2 l0_3 a1_0 a1_1 l1_2 l1_3))) = some r := H
  have A4 := Aside0.mk A40
  clear A40
  have HC5 := Aside0.mk H
  clear H
  go_enter Try.func58, Try.ntmps58
  go_upto_region 3 with (first | ((with_reducible refine gate_dst (N := 2) rfl ?_); refine box_event ?hg (N := 2) ?hd (cs := #[.int .i64 a0_0, .string a0_1, .slice A0_2 l0_2.length c0_2, .slice A0_3 l0_3.length c0_3]) (t := 52) ?hr ?_; (case hd => rfl); (case hg => rfl); (case hr => first | (go_simp; done) | (go_simp; rfl)); intro gb397 hg w6 hbox hb; have n0_ := Aside0.mk (below_step (by repeat (first | (with_reducible first | exact HB.out | apply below_alloc | apply pw_below_drewN | apply below_drew1) | exact HB.out)) hb); have n1_ := Aside0.mk (hbox); have n2_ := Aside0.mk ((by rw [hg]; exact (below_size (by repeat (first | (with_reducible first | exact HB.out | apply below_alloc | apply pw_below_drewN | apply below_drew1) | exact HB.out))) : w.heap.size ≤ gb397)); have n3_ := Aside0.mk ((by rw [hg]; exact (below_size (by repeat (first | (with_reducible first | exact HB.out | apply below_alloc | apply pw_below_drewN | apply below_drew1) | exact HB.out))) : w.heap.size ≤ gb397)); clear HB; have HB := n0_; have BK397 := n1_; have GW397 := n2_; have GE397 := n3_; clear n0_ n1_ n2_ n3_; clear hb hbox hg) | ((with_reducible refine gate_dst (N := 3) rfl ?_); refine box_event ?hg (N := 3) ?hd (cs := #[.int .i64 a1_0, .string a1_1, .slice A1_2 l1_2.length c1_2, .slice A1_3 l1_3.length c1_3]) (t := 52) ?hr ?_; (case hd => rfl); (case hg => rfl); (case hr => first | (go_simp; done) | (go_simp; rfl)); intro gb398 hg w7 hbox hb; have n0_ := Aside0.mk (blk_below (g := gb397) (o := .cells #[.int .i64 a0_0, .string a0_1, .slice A0_2 l0_2.length c0_2, .slice A0_3 l0_3.length c0_3] 52 (0, 0)) (by (with_reducible repeat (first | refine blk_drewN ?_ _ | refine blk_drew ?_ | refine blk_alloc ?_ _)); exact BK397.out) hb); have n1_ := Aside0.mk (below_step (by repeat (first | (with_reducible first | exact HB.out | apply below_alloc | apply pw_below_drewN | apply below_drew1 | refine below_set ?_ GE397.out) | exact HB.out)) hb); have n2_ := Aside0.mk (hbox); have n3_ := Aside0.mk ((by rw [hg]; exact (below_size (by repeat (first | (with_reducible first | exact HB.out | apply below_alloc | apply pw_below_drewN | apply below_drew1 | refine below_set ?_ GE397.out) | exact HB.out))) : w.heap.size ≤ gb398)); have n4_ := Aside0.mk ((by rw [hg]; exact (below_size (by repeat (first | (with_reducible first | exact HB.out | apply below_alloc | apply pw_below_drewN | apply below_drew1 | refine below_set ?_ GE397.out) | exact HB.out))) : w.heap.size ≤ gb398)); have n5_ := Aside0.mk ((by rw [hg]; exact Nat.ne_of_lt (blk_lt (g := gb397) (o := .cells #[.int .i64 a0_0, .string a0_1, .slice A0_2 l0_2.length c0_2, .slice A0_3 l0_3.length c0_3] 52 (0, 0)) (by (with_reducible repeat (first | refine blk_drewN ?_ _ | refine blk_drew ?_ | refine blk_alloc ?_ _)); exact BK397.out)) : gb397 ≠ gb398)); have n6_ := Aside0.mk ((by rw [hg]; exact Nat.ne_of_gt (blk_lt (g := gb397) (o := .cells #[.int .i64 a0_0, .string a0_1, .slice A0_2 l0_2.length c0_2, .slice A0_3 l0_3.length c0_3] 52 (0, 0)) (by (with_reducible repeat (first | refine blk_drewN ?_ _ | refine blk_drew ?_ | refine blk_alloc ?_ _)); exact BK397.out)) : gb398 ≠ gb397)); clear BK397; clear HB; have BK397 := n0_; have HB := n1_; have BK398 := n2_; have GW398 := n3_; have GE398 := n4_; have NB397_398 := n5_; have NB398_397 := n6_; clear n0_ n1_ n2_ n3_ n4_ n5_ n6_; clear hb hbox hg; have hnb8 := NB397_398.out; have hnc8 := NB398_397.out; have hcz9_0 : w7.cell? ⟨gb397, 0, none⟩ = some (.int .i64 a0_0) := (blk_cell BK397.out 0).trans rfl; have hcz9_1 : w7.cell? ⟨gb397, 1, none⟩ = some (.string a0_1) := (blk_cell BK397.out 1).trans rfl; have hcz9_2 : w7.cell? ⟨gb397, 2, none⟩ = some (.slice A0_2 l0_2.length c0_2) := (blk_cell BK397.out 2).trans rfl; have hcz9_3 : w7.cell? ⟨gb397, 3, none⟩ = some (.slice A0_3 l0_3.length c0_3) := (blk_cell BK397.out 3).trans rfl; have hfz9_0 := blk_frozen BK397.out 0; have hfz9_1 := blk_frozen BK397.out 1; have hfz9_2 := blk_frozen BK397.out 2; have hfz9_3 := blk_frozen BK397.out 3) | ((with_reducible refine gate_callee (f := 55) rfl ?_); refine goesL_ (some 8) rfl rfl Try.func55 (by kernel_rfl) rfl #[.agg #[.int .i64 a0_0, .string a0_1, .slice A0_2 l0_2.length c0_2, .slice A0_3 l0_3.length c0_3]] rfl (by (try simp only [List.map_toArray, List.map_cons, List.map_nil]); first | done | rfl | (simp only [List.length_drop, List.length_take]; rfl)) ?_; (with_reducible refine (phalaroperef08_Canon.calls k a0_0 a0_1 _ _ l0_2 _ _ l0_3 t399 t400 t401 t404 _ ?side1 ?side2 ?side3 ?side4 A3.out).mono ?_); (case side1 => repeat (first | exact (Kd.C_below HR0_2.out HB.out) | (with_reducible refine Kd.C_alloc ?_ _) | (with_reducible refine Kd.C_drewN ?_ _) | (with_reducible refine Kd.C_drew ?_))); (case side2 => exact HC0_2.out); (case side3 => repeat (first | exact (Kd.C_below HR0_3.out HB.out) | (with_reducible refine Kd.C_alloc ?_ _) | (with_reducible refine Kd.C_drewN ?_ _) | (with_reducible refine Kd.C_drew ?_))); (case side4 => exact HC0_3.out); rintro e w10 ⟨v402, v405, rfl, ho0, ho1, hb⟩; refine ⟨_, rfl, ?_⟩; have n0_ := Aside0.mk (Kd.R_lower ho0 (below_size (by repeat (first | (with_reducible first | exact HB.out | apply below_alloc | apply pw_below_drewN | apply below_drew1 | refine below_set ?_ GE397.out | refine below_set ?_ GE398.out) | exact HB.out)))); have n1_ := Aside0.mk (Kd.R_lower ho1 (below_size (by repeat (first | (with_reducible first | exact HB.out | apply below_alloc | apply pw_below_drewN | apply below_drew1 | refine below_set ?_ GE397.out | refine below_set ?_ GE398.out) | exact HB.out)))); have n2_ := Aside0.mk (blk_below (g := gb397) (o := .cells #[.int .i64 a0_0, .string a0_1, .slice A0_2 l0_2.length c0_2, .slice A0_3 l0_3.length c0_3] 52 (0, 0)) (by (with_reducible repeat (first | refine blk_drewN ?_ _ | refine blk_drew ?_ | refine blk_alloc ?_ _)); exact BK397.out) hb); have n3_ := Aside0.mk (blk_below (g := gb398) (o := .cells #[.int .i64 a1_0, .string a1_1, .slice A1_2 l1_2.length c1_2, .slice A1_3 l1_3.length c1_3] 52 (0, 0)) (by (with_reducible repeat (first | refine blk_drewN ?_ _ | refine blk_drew ?_ | refine blk_alloc ?_ _)); exact BK398.out) hb); have n4_ := Aside0.mk (below_step (by repeat (first | (with_reducible first | exact HB.out | apply below_alloc | apply pw_below_drewN | apply below_drew1 | refine below_set ?_ GE397.out | refine below_set ?_ GE398.out) | exact HB.out)) hb); clear BK397; clear BK398; clear HB; have HO403 := n0_; have HO406 := n1_; have BK397 := n2_; have BK398 := n3_; have HB := n4_; clear n0_ n1_ n2_ n3_ n4_; (try clear hb); (try clear hb2); (try clear hk); (try clear hi); (try clear ho0); (try clear ho1)) | ((with_reducible refine gate_dst (N := 5) rfl ?_); refine box_event ?hg (N := 5) ?hd (cs := #[.int .i64 0, .string (⟨#[]⟩ : ByteArray), .slice none 0 0, .slice none 0 0]) (t := 52) ?hr ?_; (case hd => rfl); (case hg => rfl); (case hr => first | (go_simp; done) | (go_simp; rfl)); intro gb407 hg w11 hbox hb; have n0_ := Aside0.mk (Kd.R_below (by (with_reducible repeat (first | apply Kd.R_alloc | apply Kd.R_drewN | apply Kd.R_drew)); exact HO403.out) hb); have n1_ := Aside0.mk (Kd.R_below (by (with_reducible repeat (first | apply Kd.R_alloc | apply Kd.R_drewN | apply Kd.R_drew)); exact HO406.out) hb); have n2_ := Aside0.mk (blk_below (g := gb397) (o := .cells #[.int .i64 a0_0, .string a0_1, .slice A0_2 l0_2.length c0_2, .slice A0_3 l0_3.length c0_3] 52 (0, 0)) (by (with_reducible repeat (first | refine blk_drewN ?_ _ | refine blk_drew ?_ | refine blk_alloc ?_ _)); exact BK397.out) hb); have n3_ := Aside0.mk (blk_below (g := gb398) (o := .cells #[.int .i64 a1_0, .string a1_1, .slice A1_2 l1_2.length c1_2, .slice A1_3 l1_3.length c1_3] 52 (0, 0)) (by (with_reducible repeat (first | refine blk_drewN ?_ _ | refine blk_drew ?_ | refine blk_alloc ?_ _)); exact BK398.out) hb); have n4_ := Aside0.mk (below_step (by repeat (first | (with_reducible first | exact HB.out | apply below_alloc | apply pw_below_drewN | apply below_drew1 | refine below_set ?_ GE397.out | refine below_set ?_ GE398.out) | exact HB.out)) hb); have n5_ := Aside0.mk (hbox); have n6_ := Aside0.mk ((by rw [hg]; exact (below_size (by repeat (first | (with_reducible first | exact HB.out | apply below_alloc | apply pw_below_drewN | apply below_drew1 | refine below_set ?_ GE397.out | refine below_set ?_ GE398.out) | exact HB.out))) : w.heap.size ≤ gb407)); have n7_ := Aside0.mk ((by rw [hg]; exact (below_size (by repeat (first | (with_reducible first | exact HB.out | apply below_alloc | apply pw_below_drewN | apply below_drew1 | refine below_set ?_ GE397.out | refine below_set ?_ GE398.out) | exact HB.out))) : w.heap.size ≤ gb407)); have n8_ := Aside0.mk ((by rw [hg]; exact Nat.ne_of_lt (blk_lt (g := gb397) (o := .cells #[.int .i64 a0_0, .string a0_1, .slice A0_2 l0_2.length c0_2, .slice A0_3 l0_3.length c0_3] 52 (0, 0)) (by (with_reducible repeat (first | refine blk_drewN ?_ _ | refine blk_drew ?_ | refine blk_alloc ?_ _)); exact BK397.out)) : gb397 ≠ gb407)); have n9_ := Aside0.mk ((by rw [hg]; exact Nat.ne_of_gt (blk_lt (g := gb397) (o := .cells #[.int .i64 a0_0, .string a0_1, .slice A0_2 l0_2.length c0_2, .slice A0_3 l0_3.length c0_3] 52 (0, 0)) (by (with_reducible repeat (first | refine blk_drewN ?_ _ | refine blk_drew ?_ | refine blk_alloc ?_ _)); exact BK397.out)) : gb407 ≠ gb397)); have n10_ := Aside0.mk ((by rw [hg]; exact Nat.ne_of_lt (blk_lt (g := gb398) (o := .cells #[.int .i64 a1_0, .string a1_1, .slice A1_2 l1_2.length c1_2, .slice A1_3 l1_3.length c1_3] 52 (0, 0)) (by (with_reducible repeat (first | refine blk_drewN ?_ _ | refine blk_drew ?_ | refine blk_alloc ?_ _)); exact BK398.out)) : gb398 ≠ gb407)); have n11_ := Aside0.mk ((by rw [hg]; exact Nat.ne_of_gt (blk_lt (g := gb398) (o := .cells #[.int .i64 a1_0, .string a1_1, .slice A1_2 l1_2.length c1_2, .slice A1_3 l1_3.length c1_3] 52 (0, 0)) (by (with_reducible repeat (first | refine blk_drewN ?_ _ | refine blk_drew ?_ | refine blk_alloc ?_ _)); exact BK398.out)) : gb407 ≠ gb398)); clear HO403; clear HO406; clear BK397; clear BK398; clear HB; have HO403 := n0_; have HO406 := n1_; have BK397 := n2_; have BK398 := n3_; have HB := n4_; have BK407 := n5_; have GW407 := n6_; have GE407 := n7_; have NB397_407 := n8_; have NB407_397 := n9_; have NB398_407 := n10_; have NB407_398 := n11_; clear n0_ n1_ n2_ n3_ n4_ n5_ n6_ n7_ n8_ n9_ n10_ n11_; clear hb hbox hg; have hnb12 := NB407_397.out; have hnc12 := NB397_407.out; have hnb13 := NB407_398.out; have hnc13 := NB398_407.out; have hcz14_0 : w11.cell? ⟨gb407, 0, none⟩ = some (.int .i64 0) := (blk_cell BK407.out 0).trans rfl; have hcz14_1 : w11.cell? ⟨gb407, 1, none⟩ = some (.string (⟨#[]⟩ : ByteArray)) := (blk_cell BK407.out 1).trans rfl; have hcz14_2 : w11.cell? ⟨gb407, 2, none⟩ = some (.slice none 0 0) := (blk_cell BK407.out 2).trans rfl; have hcz14_3 : w11.cell? ⟨gb407, 3, none⟩ = some (.slice none 0 0) := (blk_cell BK407.out 3).trans rfl; have hfz14_0 := blk_frozen BK407.out 0; have hfz14_1 := blk_frozen BK407.out 1; have hfz14_2 := blk_frozen BK407.out 2; have hfz14_3 := blk_frozen BK407.out 3; obtain ⟨Ao15, co15, eo15⟩ := Kd.R_slice HO403.out; subst eo15; obtain ⟨Ao16, co16, eo16⟩ := Kd.R_slice HO406.out; subst eo16; have hcz17_0 : w11.cell? ⟨gb398, 0, none⟩ = some (.int .i64 a1_0) := (blk_cell BK398.out 0).trans rfl; have hcz17_1 : w11.cell? ⟨gb398, 1, none⟩ = some (.string a1_1) := (blk_cell BK398.out 1).trans rfl; have hcz17_2 : w11.cell? ⟨gb398, 2, none⟩ = some (.slice A1_2 l1_2.length c1_2) := (blk_cell BK398.out 2).trans rfl; have hcz17_3 : w11.cell? ⟨gb398, 3, none⟩ = some (.slice A1_3 l1_3.length c1_3) := (blk_cell BK398.out 3).trans rfl; have hfz17_0 := blk_frozen BK398.out 0; have hfz17_1 := blk_frozen BK398.out 1; have hfz17_2 := blk_frozen BK398.out 2; have hfz17_3 := blk_frozen BK398.out 3) | ((with_reducible refine gate_callee (f := 55) rfl ?_); refine goesL_ (some 10) rfl rfl Try.func55 (by kernel_rfl) rfl #[.agg #[.int .i64 a1_0, .string a1_1, .slice A1_2 l1_2.length c1_2, .slice A1_3 l1_3.length c1_3]] rfl (by (try simp only [List.map_toArray, List.map_cons, List.map_nil]); first | done | rfl | (simp only [List.length_drop, List.length_take]; rfl)) ?_; (with_reducible refine (phalaroperef08_Canon.calls k a1_0 a1_1 _ _ l1_2 _ _ l1_3 t408 t409 t410 t413 _ ?side1 ?side2 ?side3 ?side4 A4.out).mono ?_); (case side1 => exact Kd.C_below HR1_2.out (by repeat (first | (with_reducible first | exact HB.out | apply below_alloc | apply pw_below_drewN | apply below_drew1 | refine below_set ?_ GE397.out | refine below_set ?_ GE398.out | refine below_set ?_ GE407.out) | exact HB.out))); (case side2 => exact HC1_2.out); (case side3 => exact Kd.C_below HR1_3.out (by repeat (first | (with_reducible first | exact HB.out | apply below_alloc | apply pw_below_drewN | apply below_drew1 | refine below_set ?_ GE397.out | refine below_set ?_ GE398.out | refine below_set ?_ GE407.out) | exact HB.out))); (case side4 => exact HC1_3.out); rintro e w18 ⟨v411, v414, rfl, ho0, ho1, hb⟩; refine ⟨_, rfl, ?_⟩; have n0_ := Aside0.mk (Kd.R_elder' (by (with_reducible repeat (first | apply Kd.R_alloc | apply Kd.R_drewN | apply Kd.R_drew)); exact (Kd.R_mono (Kd.R_far (p := ⟨gb407, 3, none⟩) (Kd.R_far (p := ⟨gb407, 2, none⟩) (Kd.R_far (p := ⟨gb407, 1, none⟩) (Kd.R_far (p := ⟨gb407, 0, none⟩) (Kd.R_types HO403.out BK407.out (by decide)) (fun _ hk => hk.2) (.int .i64 t399)) (fun _ hk => hk.2) (.string t400)) (fun _ hk => hk.2) (.slice Ao15 t401.length co15)) (fun _ hk => hk.2) (.slice Ao16 t404.length co16)) (fun _ h_ => h_.1))) (Kd.R_base ho0) hb); have n1_ := Aside0.mk (Kd.R_elder' (by (with_reducible repeat (first | apply Kd.R_alloc | apply Kd.R_drewN | apply Kd.R_drew)); exact (Kd.R_mono (Kd.R_far (p := ⟨gb407, 3, none⟩) (Kd.R_far (p := ⟨gb407, 2, none⟩) (Kd.R_far (p := ⟨gb407, 1, none⟩) (Kd.R_far (p := ⟨gb407, 0, none⟩) (Kd.R_types HO406.out BK407.out (by decide)) (fun _ hk => hk.2) (.int .i64 t399)) (fun _ hk => hk.2) (.string t400)) (fun _ hk => hk.2) (.slice Ao15 t401.length co15)) (fun _ hk => hk.2) (.slice Ao16 t404.length co16)) (fun _ h_ => h_.1))) (Kd.R_base ho1) hb); have n2_ := Aside0.mk (Kd.R_lower (Kd.R_new' ho0 (Kd.R_lt (by (with_reducible repeat (first | apply Kd.R_alloc | apply Kd.R_drewN | apply Kd.R_drew)); exact (Kd.R_mono (Kd.R_far (p := ⟨gb407, 3, none⟩) (Kd.R_far (p := ⟨gb407, 2, none⟩) (Kd.R_far (p := ⟨gb407, 1, none⟩) (Kd.R_far (p := ⟨gb407, 0, none⟩) (Kd.R_types HO403.out BK407.out (by decide)) (fun _ hk => hk.2) (.int .i64 t399)) (fun _ hk => hk.2) (.string t400)) (fun _ hk => hk.2) (.slice Ao15 t401.length co15)) (fun _ hk => hk.2) (.slice Ao16 t404.length co16)) (fun _ h_ => h_.1))))) (below_size (by repeat (first | (with_reducible first | exact HB.out | apply below_alloc | apply pw_below_drewN | apply below_drew1 | refine below_set ?_ GE397.out | refine below_set ?_ GE398.out | refine below_set ?_ GE407.out) | exact HB.out)))); have n3_ := Aside0.mk (Kd.R_lower (Kd.R_new' ho1 (Kd.R_lt (by (with_reducible repeat (first | apply Kd.R_alloc | apply Kd.R_drewN | apply Kd.R_drew)); exact (Kd.R_mono (Kd.R_far (p := ⟨gb407, 3, none⟩) (Kd.R_far (p := ⟨gb407, 2, none⟩) (Kd.R_far (p := ⟨gb407, 1, none⟩) (Kd.R_far (p := ⟨gb407, 0, none⟩) (Kd.R_types HO406.out BK407.out (by decide)) (fun _ hk => hk.2) (.int .i64 t399)) (fun _ hk => hk.2) (.string t400)) (fun _ hk => hk.2) (.slice Ao15 t401.length co15)) (fun _ hk => hk.2) (.slice Ao16 t404.length co16)) (fun _ h_ => h_.1))))) (below_size (by repeat (first | (with_reducible first | exact HB.out | apply below_alloc | apply pw_below_drewN | apply below_drew1 | refine below_set ?_ GE397.out | refine below_set ?_ GE398.out | refine below_set ?_ GE407.out) | exact HB.out)))); have n4_ := Aside0.mk (blk_below (g := gb397) (o := .cells #[.int .i64 a0_0, .string a0_1, .slice A0_2 l0_2.length c0_2, .slice A0_3 l0_3.length c0_3] 52 (0, 0)) (by (with_reducible repeat (first | refine blk_drewN ?_ _ | refine blk_drew ?_ | refine blk_alloc ?_ _)); refine blk_far ?_ NB397_407.out _; (with_reducible repeat (first | refine blk_drewN ?_ _ | refine blk_drew ?_ | refine blk_alloc ?_ _)); refine blk_far ?_ NB397_407.out _; (with_reducible repeat (first | refine blk_drewN ?_ _ | refine blk_drew ?_ | refine blk_alloc ?_ _)); refine blk_far ?_ NB397_407.out _; (with_reducible repeat (first | refine blk_drewN ?_ _ | refine blk_drew ?_ | refine blk_alloc ?_ _)); refine blk_far ?_ NB397_407.out _; (with_reducible repeat (first | refine blk_drewN ?_ _ | refine blk_drew ?_ | refine blk_alloc ?_ _)); exact BK397.out) hb); have n5_ := Aside0.mk (blk_below (g := gb398) (o := .cells #[.int .i64 a1_0, .string a1_1, .slice A1_2 l1_2.length c1_2, .slice A1_3 l1_3.length c1_3] 52 (0, 0)) (by (with_reducible repeat (first | refine blk_drewN ?_ _ | refine blk_drew ?_ | refine blk_alloc ?_ _)); refine blk_far ?_ NB398_407.out _; (with_reducible repeat (first | refine blk_drewN ?_ _ | refine blk_drew ?_ | refine blk_alloc ?_ _)); refine blk_far ?_ NB398_407.out _; (with_reducible repeat (first | refine blk_drewN ?_ _ | refine blk_drew ?_ | refine blk_alloc ?_ _)); refine blk_far ?_ NB398_407.out _; (with_reducible repeat (first | refine blk_drewN ?_ _ | refine blk_drew ?_ | refine blk_alloc ?_ _)); refine blk_far ?_ NB398_407.out _; (with_reducible repeat (first | refine blk_drewN ?_ _ | refine blk_drew ?_ | refine blk_alloc ?_ _)); exact BK398.out) hb); have n6_ := Aside0.mk (blk_below (g := gb407) (o := .cells #[.int .i64 t399, .string t400, .slice Ao15 t401.length co15, .slice Ao16 t404.length co16] 52 (0, 0)) (by (with_reducible repeat (first | refine blk_drewN ?_ _ | refine blk_drew ?_ | refine blk_alloc ?_ _)); refine blk_put (cs := #[.int .i64 t399, .string t400, .slice Ao15 t401.length co15, .slice none 0 0]) ?_ 3 _ rfl; (with_reducible repeat (first | refine blk_drewN ?_ _ | refine blk_drew ?_ | refine blk_alloc ?_ _)); refine blk_put (cs := #[.int .i64 t399, .string t400, .slice none 0 0, .slice none 0 0]) ?_ 2 _ rfl; (with_reducible repeat (first | refine blk_drewN ?_ _ | refine blk_drew ?_ | refine blk_alloc ?_ _)); refine blk_put (cs := #[.int .i64 t399, .string (⟨#[]⟩ : ByteArray), .slice none 0 0, .slice none 0 0]) ?_ 1 _ rfl; (with_reducible repeat (first | refine blk_drewN ?_ _ | refine blk_drew ?_ | refine blk_alloc ?_ _)); refine blk_put (cs := #[.int .i64 0, .string (⟨#[]⟩ : ByteArray), .slice none 0 0, .slice none 0 0]) ?_ 0 _ rfl; (with_reducible repeat (first | refine blk_drewN ?_ _ | refine blk_drew ?_ | refine blk_alloc ?_ _)); exact BK407.out) hb); have n7_ := Aside0.mk (below_step (by repeat (first | (with_reducible first | exact HB.out | apply below_alloc | apply pw_below_drewN | apply below_drew1 | refine below_set ?_ GE397.out | refine below_set ?_ GE398.out | refine below_set ?_ GE407.out) | exact HB.out)) hb); clear HO403; clear HO406; clear BK397; clear BK398; clear BK407; clear HB; have HO403 := n0_; have HO406 := n1_; have HO412 := n2_; have HO415 := n3_; have BK397 := n4_; have BK398 := n5_; have BK407 := n6_; have HB := n7_; clear n0_ n1_ n2_ n3_ n4_ n5_ n6_ n7_; (try clear hb); (try clear hb2); (try clear hk); (try clear hi); (try clear ho0); (try clear ho1)) | ((with_reducible refine gate_dst (N := 6) rfl ?_); refine box_event ?hg (N := 6) ?hd (cs := #[.int .i64 0, .string (⟨#[]⟩ : ByteArray), .slice none 0 0, .slice none 0 0]) (t := 52) ?hr ?_; (case hd => rfl); (case hg => rfl); (case hr => first | (go_simp; done) | (go_simp; rfl)); intro gb416 hg w19 hbox hb; have n0_ := Aside0.mk (Kd.R_below (by (with_reducible repeat (first | apply Kd.R_alloc | apply Kd.R_drewN | apply Kd.R_drew)); exact HO403.out) hb); have n1_ := Aside0.mk (Kd.R_below (by (with_reducible repeat (first | apply Kd.R_alloc | apply Kd.R_drewN | apply Kd.R_drew)); exact HO406.out) hb); have n2_ := Aside0.mk (Kd.R_below (by (with_reducible repeat (first | apply Kd.R_alloc | apply Kd.R_drewN | apply Kd.R_drew)); exact HO412.out) hb); have n3_ := Aside0.mk (Kd.R_below (by (with_reducible repeat (first | apply Kd.R_alloc | apply Kd.R_drewN | apply Kd.R_drew)); exact HO415.out) hb); have n4_ := Aside0.mk (blk_below (g := gb397) (o := .cells #[.int .i64 a0_0, .string a0_1, .slice A0_2 l0_2.length c0_2, .slice A0_3 l0_3.length c0_3] 52 (0, 0)) (by (with_reducible repeat (first | refine blk_drewN ?_ _ | refine blk_drew ?_ | refine blk_alloc ?_ _)); exact BK397.out) hb); have n5_ := Aside0.mk (blk_below (g := gb398) (o := .cells #[.int .i64 a1_0, .string a1_1, .slice A1_2 l1_2.length c1_2, .slice A1_3 l1_3.length c1_3] 52 (0, 0)) (by (with_reducible repeat (first | refine blk_drewN ?_ _ | refine blk_drew ?_ | refine blk_alloc ?_ _)); exact BK398.out) hb); have n6_ := Aside0.mk (blk_below (g := gb407) (o := .cells #[.int .i64 t399, .string t400, .slice Ao15 t401.length co15, .slice Ao16 t404.length co16] 52 (0, 0)) (by (with_reducible repeat (first | refine blk_drewN ?_ _ | refine blk_drew ?_ | refine blk_alloc ?_ _)); exact BK407.out) hb); have n7_ := Aside0.mk (below_step (by repeat (first | (with_reducible first | exact HB.out | apply below_alloc | apply pw_below_drewN | apply below_drew1 | refine below_set ?_ GE397.out | refine below_set ?_ GE398.out | refine below_set ?_ GE407.out) | exact HB.out)) hb); have n8_ := Aside0.mk (hbox); have n9_ := Aside0.mk ((by rw [hg]; exact (below_size (by repeat (first | (with_reducible first | exact HB.out | apply below_alloc | apply pw_below_drewN | apply below_drew1 | refine below_set ?_ GE397.out | refine below_set ?_ GE398.out | refine below_set ?_ GE407.out) | exact HB.out))) : w.heap.size ≤ gb416)); have n10_ := Aside0.mk ((by rw [hg]; exact (below_size (by repeat (first | (with_reducible first | exact HB.out | apply below_alloc | apply pw_below_drewN | apply below_drew1 | refine below_set ?_ GE397.out | refine below_set ?_ GE398.out | refine below_set ?_ GE407.out) | exact HB.out))) : w.heap.size ≤ gb416)); have n11_ := Aside0.mk ((by rw [hg]; exact Nat.ne_of_lt (blk_lt (g := gb397) (o := .cells #[.int .i64 a0_0, .string a0_1, .slice A0_2 l0_2.length c0_2, .slice A0_3 l0_3.length c0_3] 52 (0, 0)) (by (with_reducible repeat (first | refine blk_drewN ?_ _ | refine blk_drew ?_ | refine blk_alloc ?_ _)); exact BK397.out)) : gb397 ≠ gb416)); have n12_ := Aside0.mk ((by rw [hg]; exact Nat.ne_of_gt (blk_lt (g := gb397) (o := .cells #[.int .i64 a0_0, .string a0_1, .slice A0_2 l0_2.length c0_2, .slice A0_3 l0_3.length c0_3] 52 (0, 0)) (by (with_reducible repeat (first | refine blk_drewN ?_ _ | refine blk_drew ?_ | refine blk_alloc ?_ _)); exact BK397.out)) : gb416 ≠ gb397)); have n13_ := Aside0.mk ((by rw [hg]; exact Nat.ne_of_lt (blk_lt (g := gb398) (o := .cells #[.int .i64 a1_0, .string a1_1, .slice A1_2 l1_2.length c1_2, .slice A1_3 l1_3.length c1_3] 52 (0, 0)) (by (with_reducible repeat (first | refine blk_drewN ?_ _ | refine blk_drew ?_ | refine blk_alloc ?_ _)); exact BK398.out)) : gb398 ≠ gb416)); have n14_ := Aside0.mk ((by rw [hg]; exact Nat.ne_of_gt (blk_lt (g := gb398) (o := .cells #[.int .i64 a1_0, .string a1_1, .slice A1_2 l1_2.length c1_2, .slice A1_3 l1_3.length c1_3] 52 (0, 0)) (by (with_reducible repeat (first | refine blk_drewN ?_ _ | refine blk_drew ?_ | refine blk_alloc ?_ _)); exact BK398.out)) : gb416 ≠ gb398)); have n15_ := Aside0.mk ((by rw [hg]; exact Nat.ne_of_lt (blk_lt (g := gb407) (o := .cells #[.int .i64 t399, .string t400, .slice Ao15 t401.length co15, .slice Ao16 t404.length co16] 52 (0, 0)) (by (with_reducible repeat (first | refine blk_drewN ?_ _ | refine blk_drew ?_ | refine blk_alloc ?_ _)); exact BK407.out)) : gb407 ≠ gb416)); have n16_ := Aside0.mk ((by rw [hg]; exact Nat.ne_of_gt (blk_lt (g := gb407) (o := .cells #[.int .i64 t399, .string t400, .slice Ao15 t401.length co15, .slice Ao16 t404.length co16] 52 (0, 0)) (by (with_reducible repeat (first | refine blk_drewN ?_ _ | refine blk_drew ?_ | refine blk_alloc ?_ _)); exact BK407.out)) : gb416 ≠ gb407)); clear HO403; clear HO406; clear HO412; clear HO415; clear BK397; clear BK398; clear BK407; clear HB; have HO403 := n0_; have HO406 := n1_; have HO412 := n2_; have HO415 := n3_; have BK397 := n4_; have BK398 := n5_; have BK407 := n6_; have HB := n7_; have BK416 := n8_; have GW416 := n9_; have GE416 := n10_; have NB397_416 := n11_; have NB416_397 := n12_; have NB398_416 := n13_; have NB416_398 := n14_; have NB407_416 := n15_; have NB416_407 := n16_; clear n0_ n1_ n2_ n3_ n4_ n5_ n6_ n7_ n8_ n9_ n10_ n11_ n12_ n13_ n14_ n15_ n16_; clear hb hbox hg; have hnb20 := NB416_397.out; have hnc20 := NB397_416.out; have hnb21 := NB416_398.out; have hnc21 := NB398_416.out; have hnb22 := NB416_407.out; have hnc22 := NB407_416.out; have hcz23_0 : w19.cell? ⟨gb416, 0, none⟩ = some (.int .i64 0) := (blk_cell BK416.out 0).trans rfl; have hcz23_1 : w19.cell? ⟨gb416, 1, none⟩ = some (.string (⟨#[]⟩ : ByteArray)) := (blk_cell BK416.out 1).trans rfl; have hcz23_2 : w19.cell? ⟨gb416, 2, none⟩ = some (.slice none 0 0) := (blk_cell BK416.out 2).trans rfl; have hcz23_3 : w19.cell? ⟨gb416, 3, none⟩ = some (.slice none 0 0) := (blk_cell BK416.out 3).trans rfl; have hfz23_0 := blk_frozen BK416.out 0; have hfz23_1 := blk_frozen BK416.out 1; have hfz23_2 := blk_frozen BK416.out 2; have hfz23_3 := blk_frozen BK416.out 3; obtain ⟨Ao24, co24, eo24⟩ := Kd.R_slice HO412.out; subst eo24; obtain ⟨Ao25, co25, eo25⟩ := Kd.R_slice HO415.out; subst eo25))
  (try simp only [Act.put, List.setIfInBounds_toArray, List.set_cons_zero, List.set_cons_succ])
  go_cut [29] (fun v29 wc => ∃ (kq : Nat) (x29_4 : Bool), v29 = .bool x29_4 ∧ Aside0 (phalaroperef08_Compare.j0 kq x29_4 a0_0 a0_1 l0_2 l0_3 a1_0 a1_1 l1_2 l1_3 = some r) ∧ Aside0 (kq ≤ k) ∧ Aside0 (Kd.R Kd.string 9 wc w.heap.size (fun k_ => some k_ ≠ ((.slice Ao24 t410.length co24) : Value).ownBlock) (.slice Ao15 t401.length co15) t401) ∧ Aside0 (Kd.R k76 76 wc w.heap.size (fun k_ => some k_ ≠ ((.slice Ao25 t413.length co25) : Value).ownBlock) (.slice Ao16 t404.length co16) t404) ∧ Aside0 (Kd.R Kd.string 9 wc w.heap.size (fun k_ => some k_ ≠ ((.slice Ao15 t401.length co15) : Value).ownBlock) (.slice Ao24 t410.length co24) t410) ∧ Aside0 (Kd.R k76 76 wc w.heap.size (fun k_ => some k_ ≠ ((.slice Ao16 t404.length co16) : Value).ownBlock) (.slice Ao25 t413.length co25) t413) ∧ Aside0 (wc.heap[gb397]? = some (.cells #[.int .i64 a0_0, .string a0_1, (.slice A0_2 l0_2.length c0_2), (.slice A0_3 l0_3.length c0_3)] 52 (0, 0))) ∧ Aside0 (wc.heap[gb398]? = some (.cells #[.int .i64 a1_0, .string a1_1, (.slice A1_2 l1_2.length c1_2), (.slice A1_3 l1_3.length c1_3)] 52 (0, 0))) ∧ Aside0 (wc.heap[gb407]? = some (.cells #[.int .i64 t399, .string t400, (.slice Ao15 t401.length co15), (.slice Ao16 t404.length co16)] 52 (0, 0))) ∧ Aside0 (wc.heap[gb416]? = some (.cells #[.int .i64 t408, .string t409, (.slice Ao24 t410.length co24), (.slice Ao25 t413.length co25)] 52 (0, 0))) ∧ Aside0 (Below w.heap.size w wc))
  case first =>
    have H := HC5.out
    clear HC5
    by_cases c26 : t399 < t408
    · rw [if_pos c26] at H
      have c26b0 : decide (t399 < t408) = true := decide_eq_true c26
      clear c26
      (first | rw [c26b0] | (simp only [i64_w, i32_w]; rw [c26b0]) | skip)
      have H' := Aside0.mk H
      clear H
      try go_wp2
      have n0_ : Aside0 (Kd.R Kd.string 9 ((((w19.setCell ⟨gb416, 0, none⟩ (.int .i64 t408)).setCell ⟨gb416, 1, none⟩ (.string t409)).setCell ⟨gb416, 2, none⟩ (.slice Ao24 t410.length co24)).setCell ⟨gb416, 3, none⟩ (.slice Ao25 t413.length co25)) w.heap.size (fun k_ => some k_ ≠ (.slice Ao24 t410.length co24 : Value).ownBlock) (.slice Ao15 t401.length co15) t401) := ⟨by (with_reducible repeat (first | apply Kd.R_alloc | apply Kd.R_drewN | apply Kd.R_drew)); exact Kd.R_mono (Kd.R_far (p := ⟨gb416, 3, none⟩) (Kd.R_far (p := ⟨gb416, 2, none⟩) (Kd.R_far (p := ⟨gb416, 1, none⟩) (Kd.R_far (p := ⟨gb416, 0, none⟩) (Kd.R_types HO403.out BK416.out (by decide)) (fun _ hk => hk.2) (.int .i64 t408)) (fun _ hk => hk.2) (.string t409)) (fun _ hk => hk.2) (.slice Ao24 t410.length co24)) (fun _ hk => hk.2) (.slice Ao25 t413.length co25)) (fun _ hk => hk.1.2)⟩
      have n1_ : Aside0 (Kd.R k76 76 ((((w19.setCell ⟨gb416, 0, none⟩ (.int .i64 t408)).setCell ⟨gb416, 1, none⟩ (.string t409)).setCell ⟨gb416, 2, none⟩ (.slice Ao24 t410.length co24)).setCell ⟨gb416, 3, none⟩ (.slice Ao25 t413.length co25)) w.heap.size (fun k_ => some k_ ≠ (.slice Ao25 t413.length co25 : Value).ownBlock) (.slice Ao16 t404.length co16) t404) := ⟨by (with_reducible repeat (first | apply Kd.R_alloc | apply Kd.R_drewN | apply Kd.R_drew)); exact Kd.R_mono (Kd.R_far (p := ⟨gb416, 3, none⟩) (Kd.R_far (p := ⟨gb416, 2, none⟩) (Kd.R_far (p := ⟨gb416, 1, none⟩) (Kd.R_far (p := ⟨gb416, 0, none⟩) (Kd.R_types HO406.out BK416.out (by decide)) (fun _ hk => hk.2) (.int .i64 t408)) (fun _ hk => hk.2) (.string t409)) (fun _ hk => hk.2) (.slice Ao24 t410.length co24)) (fun _ hk => hk.2) (.slice Ao25 t413.length co25)) (fun _ hk => hk.1.2)⟩
      have n2_ : Aside0 (Kd.R Kd.string 9 ((((w19.setCell ⟨gb416, 0, none⟩ (.int .i64 t408)).setCell ⟨gb416, 1, none⟩ (.string t409)).setCell ⟨gb416, 2, none⟩ (.slice Ao24 t410.length co24)).setCell ⟨gb416, 3, none⟩ (.slice Ao25 t413.length co25)) w.heap.size (fun k_ => some k_ ≠ (.slice Ao15 t401.length co15 : Value).ownBlock) (.slice Ao24 t410.length co24) t410) := ⟨by (with_reducible repeat (first | apply Kd.R_alloc | apply Kd.R_drewN | apply Kd.R_drew)); exact Kd.R_mono (Kd.R_far (p := ⟨gb416, 3, none⟩) (Kd.R_far (p := ⟨gb416, 2, none⟩) (Kd.R_far (p := ⟨gb416, 1, none⟩) (Kd.R_far (p := ⟨gb416, 0, none⟩) (Kd.R_types HO412.out BK416.out (by decide)) (fun _ hk => hk.2) (.int .i64 t408)) (fun _ hk => hk.2) (.string t409)) (fun _ hk => hk.2) (.slice Ao24 t410.length co24)) (fun _ hk => hk.2) (.slice Ao25 t413.length co25)) (fun _ hk => hk.1.2)⟩
      have n3_ : Aside0 (Kd.R k76 76 ((((w19.setCell ⟨gb416, 0, none⟩ (.int .i64 t408)).setCell ⟨gb416, 1, none⟩ (.string t409)).setCell ⟨gb416, 2, none⟩ (.slice Ao24 t410.length co24)).setCell ⟨gb416, 3, none⟩ (.slice Ao25 t413.length co25)) w.heap.size (fun k_ => some k_ ≠ (.slice Ao16 t404.length co16 : Value).ownBlock) (.slice Ao25 t413.length co25) t413) := ⟨by (with_reducible repeat (first | apply Kd.R_alloc | apply Kd.R_drewN | apply Kd.R_drew)); exact Kd.R_mono (Kd.R_far (p := ⟨gb416, 3, none⟩) (Kd.R_far (p := ⟨gb416, 2, none⟩) (Kd.R_far (p := ⟨gb416, 1, none⟩) (Kd.R_far (p := ⟨gb416, 0, none⟩) (Kd.R_types HO415.out BK416.out (by decide)) (fun _ hk => hk.2) (.int .i64 t408)) (fun _ hk => hk.2) (.string t409)) (fun _ hk => hk.2) (.slice Ao24 t410.length co24)) (fun _ hk => hk.2) (.slice Ao25 t413.length co25)) (fun _ hk => hk.1.2)⟩
      have n4_ : Aside0 (((((w19.setCell ⟨gb416, 0, none⟩ (.int .i64 t408)).setCell ⟨gb416, 1, none⟩ (.string t409)).setCell ⟨gb416, 2, none⟩ (.slice Ao24 t410.length co24)).setCell ⟨gb416, 3, none⟩ (.slice Ao25 t413.length co25)).heap[gb397]? = some (.cells #[.int .i64 a0_0, .string a0_1, .slice A0_2 l0_2.length c0_2, .slice A0_3 l0_3.length c0_3] 52 (0, 0))) := ⟨by (with_reducible repeat (first | refine blk_drewN ?_ _ | refine blk_drew ?_ | refine blk_alloc ?_ _)); refine blk_far ?_ NB397_416.out _; (with_reducible repeat (first | refine blk_drewN ?_ _ | refine blk_drew ?_ | refine blk_alloc ?_ _)); refine blk_far ?_ NB397_416.out _; (with_reducible repeat (first | refine blk_drewN ?_ _ | refine blk_drew ?_ | refine blk_alloc ?_ _)); refine blk_far ?_ NB397_416.out _; (with_reducible repeat (first | refine blk_drewN ?_ _ | refine blk_drew ?_ | refine blk_alloc ?_ _)); refine blk_far ?_ NB397_416.out _; (with_reducible repeat (first | refine blk_drewN ?_ _ | refine blk_drew ?_ | refine blk_alloc ?_ _)); exact BK397.out⟩
      have n5_ : Aside0 (((((w19.setCell ⟨gb416, 0, none⟩ (.int .i64 t408)).setCell ⟨gb416, 1, none⟩ (.string t409)).setCell ⟨gb416, 2, none⟩ (.slice Ao24 t410.length co24)).setCell ⟨gb416, 3, none⟩ (.slice Ao25 t413.length co25)).heap[gb398]? = some (.cells #[.int .i64 a1_0, .string a1_1, .slice A1_2 l1_2.length c1_2, .slice A1_3 l1_3.length c1_3] 52 (0, 0))) := ⟨by (with_reducible repeat (first | refine blk_drewN ?_ _ | refine blk_drew ?_ | refine blk_alloc ?_ _)); refine blk_far ?_ NB398_416.out _; (with_reducible repeat (first | refine blk_drewN ?_ _ | refine blk_drew ?_ | refine blk_alloc ?_ _)); refine blk_far ?_ NB398_416.out _; (with_reducible repeat (first | refine blk_drewN ?_ _ | refine blk_drew ?_ | refine blk_alloc ?_ _)); refine blk_far ?_ NB398_416.out _; (with_reducible repeat (first | refine blk_drewN ?_ _ | refine blk_drew ?_ | refine blk_alloc ?_ _)); refine blk_far ?_ NB398_416.out _; (with_reducible repeat (first | refine blk_drewN ?_ _ | refine blk_drew ?_ | refine blk_alloc ?_ _)); exact BK398.out⟩
      have n6_ : Aside0 (((((w19.setCell ⟨gb416, 0, none⟩ (.int .i64 t408)).setCell ⟨gb416, 1, none⟩ (.string t409)).setCell ⟨gb416, 2, none⟩ (.slice Ao24 t410.length co24)).setCell ⟨gb416, 3, none⟩ (.slice Ao25 t413.length co25)).heap[gb407]? = some (.cells #[.int .i64 t399, .string t400, .slice Ao15 t401.length co15, .slice Ao16 t404.length co16] 52 (0, 0))) := ⟨by (with_reducible repeat (first | refine blk_drewN ?_ _ | refine blk_drew ?_ | refine blk_alloc ?_ _)); refine blk_far ?_ NB407_416.out _; (with_reducible repeat (first | refine blk_drewN ?_ _ | refine blk_drew ?_ | refine blk_alloc ?_ _)); refine blk_far ?_ NB407_416.out _; (with_reducible repeat (first | refine blk_drewN ?_ _ | refine blk_drew ?_ | refine blk_alloc ?_ _)); refine blk_far ?_ NB407_416.out _; (with_reducible repeat (first | refine blk_drewN ?_ _ | refine blk_drew ?_ | refine blk_alloc ?_ _)); refine blk_far ?_ NB407_416.out _; (with_reducible repeat (first | refine blk_drewN ?_ _ | refine blk_drew ?_ | refine blk_alloc ?_ _)); exact BK407.out⟩
      have n7_ : Aside0 (((((w19.setCell ⟨gb416, 0, none⟩ (.int .i64 t408)).setCell ⟨gb416, 1, none⟩ (.string t409)).setCell ⟨gb416, 2, none⟩ (.slice Ao24 t410.length co24)).setCell ⟨gb416, 3, none⟩ (.slice Ao25 t413.length co25)).heap[gb416]? = some (.cells #[.int .i64 t408, .string t409, .slice Ao24 t410.length co24, .slice Ao25 t413.length co25] 52 (0, 0))) := ⟨by (with_reducible repeat (first | refine blk_drewN ?_ _ | refine blk_drew ?_ | refine blk_alloc ?_ _)); refine blk_put (cs := #[.int .i64 t408, .string t409, .slice Ao24 t410.length co24, .slice none 0 0]) ?_ 3 _ rfl; (with_reducible repeat (first | refine blk_drewN ?_ _ | refine blk_drew ?_ | refine blk_alloc ?_ _)); refine blk_put (cs := #[.int .i64 t408, .string t409, .slice none 0 0, .slice none 0 0]) ?_ 2 _ rfl; (with_reducible repeat (first | refine blk_drewN ?_ _ | refine blk_drew ?_ | refine blk_alloc ?_ _)); refine blk_put (cs := #[.int .i64 t408, .string (⟨#[]⟩ : ByteArray), .slice none 0 0, .slice none 0 0]) ?_ 1 _ rfl; (with_reducible repeat (first | refine blk_drewN ?_ _ | refine blk_drew ?_ | refine blk_alloc ?_ _)); refine blk_put (cs := #[.int .i64 0, .string (⟨#[]⟩ : ByteArray), .slice none 0 0, .slice none 0 0]) ?_ 0 _ rfl; (with_reducible repeat (first | refine blk_drewN ?_ _ | refine blk_drew ?_ | refine blk_alloc ?_ _)); exact BK416.out⟩
      have n8_ : Aside0 (Below w.heap.size w ((((w19.setCell ⟨gb416, 0, none⟩ (.int .i64 t408)).setCell ⟨gb416, 1, none⟩ (.string t409)).setCell ⟨gb416, 2, none⟩ (.slice Ao24 t410.length co24)).setCell ⟨gb416, 3, none⟩ (.slice Ao25 t413.length co25))) := ⟨by repeat (first | (with_reducible first | exact HB.out | apply below_alloc | apply pw_below_drewN | apply below_drew1 | refine below_set ?_ GE397.out | refine below_set ?_ GE398.out | refine below_set ?_ GE407.out | refine below_set ?_ GE416.out) | exact HB.out)⟩
      (try clear HO403)
      (try clear HO406)
      (try clear HO412)
      (try clear HO415)
      (try clear BK397)
      (try clear BK398)
      (try clear BK407)
      (try clear BK416)
      (try clear HB)
      generalize ((((w19.setCell ⟨gb416, 0, none⟩ (.int .i64 t408)).setCell ⟨gb416, 1, none⟩ (.string t409)).setCell ⟨gb416, 2, none⟩ (.slice Ao24 t410.length co24)).setCell ⟨gb416, 3, none⟩ (.slice Ao25 t413.length co25)) = w27 at n0_ n1_ n2_ n3_ n4_ n5_ n6_ n7_ n8_ ⊢
      have HO403 := n0_
      have HO406 := n1_
      have HO412 := n2_
      have HO415 := n3_
      have BK397 := n4_
      have BK398 := n5_
      have BK407 := n6_
      have BK416 := n7_
      have HB := n8_
      clear n0_ n1_ n2_ n3_ n4_ n5_ n6_ n7_ n8_
      have n0_ := Aside0.mk (Kd.R_drew HO403.out)
      have n1_ := Aside0.mk (Kd.R_drew HO406.out)
      have n2_ := Aside0.mk (Kd.R_drew HO412.out)
      have n3_ := Aside0.mk (Kd.R_drew HO415.out)
      have n4_ := Aside0.mk (blk_drew BK397.out)
      have n5_ := Aside0.mk (blk_drew BK398.out)
      have n6_ := Aside0.mk (blk_drew BK407.out)
      have n7_ := Aside0.mk (blk_drew BK416.out)
      have n8_ := Aside0.mk (below_drew1 HB.out)
      clear HO403
      clear HO406
      clear HO412
      clear HO415
      clear BK397
      clear BK398
      clear BK407
      clear BK416
      clear HB
      have HO403 := n0_
      have HO406 := n1_
      have HO412 := n2_
      have HO415 := n3_
      have BK397 := n4_
      have BK398 := n5_
      have BK407 := n6_
      have BK416 := n7_
      have HB := n8_
      clear n0_ n1_ n2_ n3_ n4_ n5_ n6_ n7_ n8_
      refine start_ (n := 19) (S := fun w' => w'.cell? ⟨gb407, 0, none⟩ = some (.int .i64 t399) ∧ w'.cell? ⟨gb407, 1, none⟩ = some (.string t400) ∧ w'.cell? ⟨gb407, 2, none⟩ = some (.slice Ao15 t401.length co15) ∧ w'.cell? ⟨gb407, 3, none⟩ = some (.slice Ao16 t404.length co16) ∧ w'.cell? ⟨gb416, 0, none⟩ = some (.int .i64 t408) ∧ w'.cell? ⟨gb416, 1, none⟩ = some (.string t409) ∧ w'.cell? ⟨gb416, 2, none⟩ = some (.slice Ao24 t410.length co24) ∧ w'.cell? ⟨gb416, 3, none⟩ = some (.slice Ao25 t413.length co25)) (ds := []) #[false, false, false, false, false, false, false, false, false, false, false, false, false, false, false, false, false, false, false] (by kernel_rfl) rfl rfl ⟨(blk_cell BK407.out 0).trans rfl, (blk_cell BK407.out 1).trans rfl, (blk_cell BK407.out 2).trans rfl, (blk_cell BK407.out 3).trans rfl, (blk_cell BK416.out 0).trans rfl, (blk_cell BK416.out 1).trans rfl, (blk_cell BK416.out 2).trans rfl, (blk_cell BK416.out 3).trans rfl⟩ (fun hHeld => ?_); refine with_tabW phalaroperef08_Compare.tab3 phalaroperef08_Compare.bits3 (fun HT_ HW_ => ?_)
      generalize w27.drew = w28 at HO403 HO406 HO412 HO415 BK397 BK398 BK407 BK416 HB hHeld ⊢
      refine pure_ (i := 0) (N := some 11) (v := ?_) (a' := ?_) #[true, false, false, false, false, false, false, false, false, false, false, false, false, false, false, false, false, false, false] rfl rfl (any_of HT_.out (by kernel_rfl)) (fun _ _ _ h => h) (Or.inl ⟨by rfl, ?_⟩) ?_ ?_
      rotate_left
      · intro w'
        go_simp
        with_reducible rfl
      rotate_left
      · simp only [Act.put, List.setIfInBounds_toArray, List.set_cons_zero, List.set_cons_succ, i64_w, i32_w]
        rfl
      refine pure_ (i := 2) (N := some 13) (v := ?_) (a' := ?_) #[true, false, true, false, false, false, false, false, false, false, false, false, false, false, false, false, false, false, false] rfl rfl (any_of HT_.out (by kernel_rfl)) (fun _ _ _ h => h) (Or.inl ⟨by rfl, ?_⟩) ?_ ?_
      rotate_left
      · intro w'
        go_simp
        with_reducible rfl
      rotate_left
      · simp only [Act.put, List.setIfInBounds_toArray, List.set_cons_zero, List.set_cons_succ, i64_w, i32_w]
        rfl
      refine take_ (i := 1) (N := some 12) (v := ?_) (a' := ?_) #[true, true, true, false, false, false, false, false, false, false, false, false, false, false, false, false, false, false, false] rfl rfl (take_ofW HT_.out HW_.out (by kernel_rfl)) (fun _ _ _ h => h) (Or.inl ⟨by rfl, ?_⟩) hHeld ?_ ?_
      rotate_left
      · rintro w' ⟨s0, s1, s2, s3, s4, s5, s6, s7⟩
        go_simp
        with_reducible rfl
      rotate_left
      · simp only [Act.put, List.setIfInBounds_toArray, List.set_cons_zero, List.set_cons_succ, i64_w, i32_w]
        rfl
      refine take_ (i := 3) (N := some 14) (v := ?_) (a' := ?_) #[true, true, true, true, false, false, false, false, false, false, false, false, false, false, false, false, false, false, false] rfl rfl (take_ofW HT_.out HW_.out (by kernel_rfl)) (fun _ _ _ h => h) (Or.inl ⟨by rfl, ?_⟩) hHeld ?_ ?_
      rotate_left
      · rintro w' ⟨s0, s1, s2, s3, s4, s5, s6, s7⟩
        go_simp
        with_reducible rfl
      rotate_left
      · simp only [Act.put, List.setIfInBounds_toArray, List.set_cons_zero, List.set_cons_succ, i64_w, i32_w]
        rfl
      refine pure_ (i := 4) (N := some 15) (v := ?_) (a' := ?_) #[true, true, true, true, true, false, false, false, false, false, false, false, false, false, false, false, false, false, false] rfl rfl (any_of HT_.out (by kernel_rfl)) (fun _ _ _ h => h) (Or.inl ⟨by rfl, ?_⟩) ?_ ?_
      rotate_left
      · intro w'
        go_simp
        with_reducible rfl
      rotate_left
      · simp only [Act.put, List.setIfInBounds_toArray, List.set_cons_zero, List.set_cons_succ, i64_w, i32_w]
        rfl
      refine pure_ (i := 5) (N := some 16) (v := ?_) (a' := ?_) #[true, true, true, true, true, true, false, false, false, false, false, false, false, false, false, false, false, false, false] rfl rfl (any_of HT_.out (by kernel_rfl)) (fun _ _ _ h => h) (Or.inl ⟨by rfl, ?_⟩) ?_ ?_
      rotate_left
      · intro w'
        go_simp
        with_reducible rfl
      rotate_left
      · simp only [Act.put, List.setIfInBounds_toArray, List.set_cons_zero, List.set_cons_succ, i64_w, i32_w]
        rfl
      refine pure_ (i := 6) (N := some 17) (v := undef) (a' := ?_) #[true, true, true, true, true, true, true, false, false, false, false, false, false, false, false, false, false, false, false] rfl rfl (any_of HT_.out (by kernel_rfl)) (fun _ _ _ h => h) (Or.inr ⟨by rfl, rfl⟩) ?_ ?_
      rotate_left
      · simp only [Act.put, List.setIfInBounds_toArray, List.set_cons_zero, List.set_cons_succ, i64_w, i32_w]
        rfl
      refine pure_ (i := 7) (N := some 18) (v := undef) (a' := ?_) #[true, true, true, true, true, true, true, true, false, false, false, false, false, false, false, false, false, false, false] rfl rfl (any_of HT_.out (by kernel_rfl)) (fun _ _ _ h => h) (Or.inr ⟨by rfl, rfl⟩) ?_ ?_
      rotate_left
      · simp only [Act.put, List.setIfInBounds_toArray, List.set_cons_zero, List.set_cons_succ, i64_w, i32_w]
        rfl
      refine pure_ (i := 8) (N := some 19) (v := undef) (a' := ?_) #[true, true, true, true, true, true, true, true, true, false, false, false, false, false, false, false, false, false, false] rfl rfl (any_of HT_.out (by kernel_rfl)) (fun _ _ _ h => h) (Or.inr ⟨by rfl, rfl⟩) ?_ ?_
      rotate_left
      · simp only [Act.put, List.setIfInBounds_toArray, List.set_cons_zero, List.set_cons_succ, i64_w, i32_w]
        rfl
      refine pure_ (i := 9) (N := some 20) (v := undef) (a' := ?_) #[true, true, true, true, true, true, true, true, true, true, false, false, false, false, false, false, false, false, false] rfl rfl (any_of HT_.out (by kernel_rfl)) (fun _ _ _ h => h) (Or.inr ⟨by rfl, rfl⟩) ?_ ?_
      rotate_left
      · simp only [Act.put, List.setIfInBounds_toArray, List.set_cons_zero, List.set_cons_succ, i64_w, i32_w]
        rfl
      refine pure_ (i := 10) (N := some 21) (v := undef) (a' := ?_) #[true, true, true, true, true, true, true, true, true, true, true, false, false, false, false, false, false, false, false] rfl rfl (any_of HT_.out (by kernel_rfl)) (fun _ _ _ h => h) (Or.inr ⟨by rfl, rfl⟩) ?_ ?_
      rotate_left
      · simp only [Act.put, List.setIfInBounds_toArray, List.set_cons_zero, List.set_cons_succ, i64_w, i32_w]
        rfl
      refine pure_ (i := 11) (N := some 22) (v := undef) (a' := ?_) #[true, true, true, true, true, true, true, true, true, true, true, true, false, false, false, false, false, false, false] rfl rfl (any_of HT_.out (by kernel_rfl)) (fun _ _ _ h => h) (Or.inr ⟨by rfl, rfl⟩) ?_ ?_
      rotate_left
      · simp only [Act.put, List.setIfInBounds_toArray, List.set_cons_zero, List.set_cons_succ, i64_w, i32_w]
        rfl
      refine pure_ (i := 12) (N := some 23) (v := undef) (a' := ?_) #[true, true, true, true, true, true, true, true, true, true, true, true, true, false, false, false, false, false, false] rfl rfl (any_of HT_.out (by kernel_rfl)) (fun _ _ _ h => h) (Or.inr ⟨by rfl, rfl⟩) ?_ ?_
      rotate_left
      · simp only [Act.put, List.setIfInBounds_toArray, List.set_cons_zero, List.set_cons_succ, i64_w, i32_w]
        rfl
      refine pure_ (i := 13) (N := some 24) (v := undef) (a' := ?_) #[true, true, true, true, true, true, true, true, true, true, true, true, true, true, false, false, false, false, false] rfl rfl (any_of HT_.out (by kernel_rfl)) (fun _ _ _ h => h) (Or.inr ⟨by rfl, rfl⟩) ?_ ?_
      rotate_left
      · simp only [Act.put, List.setIfInBounds_toArray, List.set_cons_zero, List.set_cons_succ, i64_w, i32_w]
        rfl
      refine pure_ (i := 14) (N := some 25) (v := undef) (a' := ?_) #[true, true, true, true, true, true, true, true, true, true, true, true, true, true, true, false, false, false, false] rfl rfl (any_of HT_.out (by kernel_rfl)) (fun _ _ _ h => h) (Or.inr ⟨by rfl, rfl⟩) ?_ ?_
      rotate_left
      · simp only [Act.put, List.setIfInBounds_toArray, List.set_cons_zero, List.set_cons_succ, i64_w, i32_w]
        rfl
      refine pure_ (i := 15) (N := some 26) (v := undef) (a' := ?_) #[true, true, true, true, true, true, true, true, true, true, true, true, true, true, true, true, false, false, false] rfl rfl (any_of HT_.out (by kernel_rfl)) (fun _ _ _ h => h) (Or.inr ⟨by rfl, rfl⟩) ?_ ?_
      rotate_left
      · simp only [Act.put, List.setIfInBounds_toArray, List.set_cons_zero, List.set_cons_succ, i64_w, i32_w]
        rfl
      refine pure_ (i := 16) (N := some 27) (v := undef) (a' := ?_) #[true, true, true, true, true, true, true, true, true, true, true, true, true, true, true, true, true, false, false] rfl rfl (any_of HT_.out (by kernel_rfl)) (fun _ _ _ h => h) (Or.inr ⟨by rfl, rfl⟩) ?_ ?_
      rotate_left
      · simp only [Act.put, List.setIfInBounds_toArray, List.set_cons_zero, List.set_cons_succ, i64_w, i32_w]
        rfl
      refine pure_ (i := 17) (N := some 28) (v := undef) (a' := ?_) #[true, true, true, true, true, true, true, true, true, true, true, true, true, true, true, true, true, true, false] rfl rfl (any_of HT_.out (by kernel_rfl)) (fun _ _ _ h => h) (Or.inr ⟨by rfl, rfl⟩) ?_ ?_
      rotate_left
      · simp only [Act.put, List.setIfInBounds_toArray, List.set_cons_zero, List.set_cons_succ, i64_w, i32_w]
        rfl
      refine pure_ (i := 18) (N := some 29) (v := ?_) (a' := ?_) #[true, true, true, true, true, true, true, true, true, true, true, true, true, true, true, true, true, true, true] rfl rfl (any_of HT_.out (by kernel_rfl)) (fun _ _ _ h => h) (Or.inl ⟨by rfl, ?_⟩) ?_ ?_
      rotate_left
      · intro w'
        go_simp
        with_reducible rfl
      rotate_left
      · simp only [Act.put, List.setIfInBounds_toArray, List.set_cons_zero, List.set_cons_succ, i64_w, i32_w]
        rfl
      refine done_ (done_of HT_.out (by kernel_rfl)) ?_
      try go_wp2
      go_meet
      case rel => exact ⟨_, (true), (by first | rfl | (simp; done) | (simp [*]; done)), H', ⟨by first | omega | exact Nat.le_refl _⟩, ⟨by (with_reducible repeat (first | apply Kd.R_alloc | apply Kd.R_drewN | apply Kd.R_drew)); exact HO403.out⟩, ⟨by (with_reducible repeat (first | apply Kd.R_alloc | apply Kd.R_drewN | apply Kd.R_drew)); exact HO406.out⟩, ⟨by (with_reducible repeat (first | apply Kd.R_alloc | apply Kd.R_drewN | apply Kd.R_drew)); exact HO412.out⟩, ⟨by (with_reducible repeat (first | apply Kd.R_alloc | apply Kd.R_drewN | apply Kd.R_drew)); exact HO415.out⟩, ⟨by (with_reducible repeat (first | refine blk_drewN ?_ _ | refine blk_drew ?_ | refine blk_alloc ?_ _)); exact BK397.out⟩, ⟨by (with_reducible repeat (first | refine blk_drewN ?_ _ | refine blk_drew ?_ | refine blk_alloc ?_ _)); exact BK398.out⟩, ⟨by (with_reducible repeat (first | refine blk_drewN ?_ _ | refine blk_drew ?_ | refine blk_alloc ?_ _)); exact BK407.out⟩, ⟨by (with_reducible repeat (first | refine blk_drewN ?_ _ | refine blk_drew ?_ | refine blk_alloc ?_ _)); exact BK416.out⟩, ⟨by repeat (first | (with_reducible first | exact HB.out | apply below_alloc | apply pw_below_drewN | apply below_drew1 | refine below_set ?_ GE397.out | refine below_set ?_ GE398.out | refine below_set ?_ GE407.out | refine below_set ?_ GE416.out) | exact HB.out)⟩⟩
    · rw [if_neg c26] at H
      have c26b0 : decide (t399 < t408) = false := decide_eq_false c26
      clear c26
      (first | rw [c26b0] | (simp only [i64_w, i32_w]; rw [c26b0]) | skip)
      by_cases c29 : t399 = t408
      · rw [if_pos c29] at H
        have c29b0 : (t399 == t408) = true := beq_iff_eq.mpr c29
        have c29b1 : (t399 != t408) = false := bne_eq_false_iff_eq.mpr c29
        clear c29
        replace H := Option.bind_eq_some_iff.mp H
        obtain ⟨t417, A300, H⟩ := H
        replace H : ((phalaroperef08_Texts.f k t408 t409 t410 t413).bind fun t420 => ((phalaroperef08_less.f k t417 t420).bind fun t423 => (phalaroperef08_Compare.j0 k t423 a0_0 a0_1 l0_2 l0_3 a1_0 a1_1 l1_2 l1_3))) = some r := H
        have A30 := Aside0.mk A300
        clear A300
        replace H := Option.bind_eq_some_iff.mp H
        obtain ⟨t420, A310, H⟩ := H
        replace H : ((phalaroperef08_less.f k t417 t420).bind fun t423 => (phalaroperef08_Compare.j0 k t423 a0_0 a0_1 l0_2 l0_3 a1_0 a1_1 l1_2 l1_3)) = some r := H
        have A31 := Aside0.mk A310
        clear A310
        replace H := Option.bind_eq_some_iff.mp H
        obtain ⟨t423, A320, H⟩ := H
        replace H : (phalaroperef08_Compare.j0 k t423 a0_0 a0_1 l0_2 l0_3 a1_0 a1_1 l1_2 l1_3) = some r := H
        have A32 := Aside0.mk A320
        clear A320
        have H' := Aside0.mk H
        clear H
        try go_wp2
        have n0_ : Aside0 (Kd.R Kd.string 9 ((((w19.setCell ⟨gb416, 0, none⟩ (.int .i64 t408)).setCell ⟨gb416, 1, none⟩ (.string t409)).setCell ⟨gb416, 2, none⟩ (.slice Ao24 t410.length co24)).setCell ⟨gb416, 3, none⟩ (.slice Ao25 t413.length co25)) w.heap.size (fun k_ => some k_ ≠ (.slice Ao24 t410.length co24 : Value).ownBlock) (.slice Ao15 t401.length co15) t401) := ⟨by (with_reducible repeat (first | apply Kd.R_alloc | apply Kd.R_drewN | apply Kd.R_drew)); exact Kd.R_mono (Kd.R_far (p := ⟨gb416, 3, none⟩) (Kd.R_far (p := ⟨gb416, 2, none⟩) (Kd.R_far (p := ⟨gb416, 1, none⟩) (Kd.R_far (p := ⟨gb416, 0, none⟩) (Kd.R_types HO403.out BK416.out (by decide)) (fun _ hk => hk.2) (.int .i64 t408)) (fun _ hk => hk.2) (.string t409)) (fun _ hk => hk.2) (.slice Ao24 t410.length co24)) (fun _ hk => hk.2) (.slice Ao25 t413.length co25)) (fun _ hk => hk.1.2)⟩
        have n1_ : Aside0 (Kd.R k76 76 ((((w19.setCell ⟨gb416, 0, none⟩ (.int .i64 t408)).setCell ⟨gb416, 1, none⟩ (.string t409)).setCell ⟨gb416, 2, none⟩ (.slice Ao24 t410.length co24)).setCell ⟨gb416, 3, none⟩ (.slice Ao25 t413.length co25)) w.heap.size (fun k_ => some k_ ≠ (.slice Ao25 t413.length co25 : Value).ownBlock) (.slice Ao16 t404.length co16) t404) := ⟨by (with_reducible repeat (first | apply Kd.R_alloc | apply Kd.R_drewN | apply Kd.R_drew)); exact Kd.R_mono (Kd.R_far (p := ⟨gb416, 3, none⟩) (Kd.R_far (p := ⟨gb416, 2, none⟩) (Kd.R_far (p := ⟨gb416, 1, none⟩) (Kd.R_far (p := ⟨gb416, 0, none⟩) (Kd.R_types HO406.out BK416.out (by decide)) (fun _ hk => hk.2) (.int .i64 t408)) (fun _ hk => hk.2) (.string t409)) (fun _ hk => hk.2) (.slice Ao24 t410.length co24)) (fun _ hk => hk.2) (.slice Ao25 t413.length co25)) (fun _ hk => hk.1.2)⟩
        have n2_ : Aside0 (Kd.R Kd.string 9 ((((w19.setCell ⟨gb416, 0, none⟩ (.int .i64 t408)).setCell ⟨gb416, 1, none⟩ (.string t409)).setCell ⟨gb416, 2, none⟩ (.slice Ao24 t410.length co24)).setCell ⟨gb416, 3, none⟩ (.slice Ao25 t413.length co25)) w.heap.size (fun k_ => some k_ ≠ (.slice Ao15 t401.length co15 : Value).ownBlock) (.slice Ao24 t410.length co24) t410) := ⟨by (with_reducible repeat (first | apply Kd.R_alloc | apply Kd.R_drewN | apply Kd.R_drew)); exact Kd.R_mono (Kd.R_far (p := ⟨gb416, 3, none⟩) (Kd.R_far (p := ⟨gb416, 2, none⟩) (Kd.R_far (p := ⟨gb416, 1, none⟩) (Kd.R_far (p := ⟨gb416, 0, none⟩) (Kd.R_types HO412.out BK416.out (by decide)) (fun _ hk => hk.2) (.int .i64 t408)) (fun _ hk => hk.2) (.string t409)) (fun _ hk => hk.2) (.slice Ao24 t410.length co24)) (fun _ hk => hk.2) (.slice Ao25 t413.length co25)) (fun _ hk => hk.1.2)⟩
        have n3_ : Aside0 (Kd.R k76 76 ((((w19.setCell ⟨gb416, 0, none⟩ (.int .i64 t408)).setCell ⟨gb416, 1, none⟩ (.string t409)).setCell ⟨gb416, 2, none⟩ (.slice Ao24 t410.length co24)).setCell ⟨gb416, 3, none⟩ (.slice Ao25 t413.length co25)) w.heap.size (fun k_ => some k_ ≠ (.slice Ao16 t404.length co16 : Value).ownBlock) (.slice Ao25 t413.length co25) t413) := ⟨by (with_reducible repeat (first | apply Kd.R_alloc | apply Kd.R_drewN | apply Kd.R_drew)); exact Kd.R_mono (Kd.R_far (p := ⟨gb416, 3, none⟩) (Kd.R_far (p := ⟨gb416, 2, none⟩) (Kd.R_far (p := ⟨gb416, 1, none⟩) (Kd.R_far (p := ⟨gb416, 0, none⟩) (Kd.R_types HO415.out BK416.out (by decide)) (fun _ hk => hk.2) (.int .i64 t408)) (fun _ hk => hk.2) (.string t409)) (fun _ hk => hk.2) (.slice Ao24 t410.length co24)) (fun _ hk => hk.2) (.slice Ao25 t413.length co25)) (fun _ hk => hk.1.2)⟩
        have n4_ : Aside0 (((((w19.setCell ⟨gb416, 0, none⟩ (.int .i64 t408)).setCell ⟨gb416, 1, none⟩ (.string t409)).setCell ⟨gb416, 2, none⟩ (.slice Ao24 t410.length co24)).setCell ⟨gb416, 3, none⟩ (.slice Ao25 t413.length co25)).heap[gb397]? = some (.cells #[.int .i64 a0_0, .string a0_1, .slice A0_2 l0_2.length c0_2, .slice A0_3 l0_3.length c0_3] 52 (0, 0))) := ⟨by (with_reducible repeat (first | refine blk_drewN ?_ _ | refine blk_drew ?_ | refine blk_alloc ?_ _)); refine blk_far ?_ NB397_416.out _; (with_reducible repeat (first | refine blk_drewN ?_ _ | refine blk_drew ?_ | refine blk_alloc ?_ _)); refine blk_far ?_ NB397_416.out _; (with_reducible repeat (first | refine blk_drewN ?_ _ | refine blk_drew ?_ | refine blk_alloc ?_ _)); refine blk_far ?_ NB397_416.out _; (with_reducible repeat (first | refine blk_drewN ?_ _ | refine blk_drew ?_ | refine blk_alloc ?_ _)); refine blk_far ?_ NB397_416.out _; (with_reducible repeat (first | refine blk_drewN ?_ _ | refine blk_drew ?_ | refine blk_alloc ?_ _)); exact BK397.out⟩
        have n5_ : Aside0 (((((w19.setCell ⟨gb416, 0, none⟩ (.int .i64 t408)).setCell ⟨gb416, 1, none⟩ (.string t409)).setCell ⟨gb416, 2, none⟩ (.slice Ao24 t410.length co24)).setCell ⟨gb416, 3, none⟩ (.slice Ao25 t413.length co25)).heap[gb398]? = some (.cells #[.int .i64 a1_0, .string a1_1, .slice A1_2 l1_2.length c1_2, .slice A1_3 l1_3.length c1_3] 52 (0, 0))) := ⟨by (with_reducible repeat (first | refine blk_drewN ?_ _ | refine blk_drew ?_ | refine blk_alloc ?_ _)); refine blk_far ?_ NB398_416.out _; (with_reducible repeat (first | refine blk_drewN ?_ _ | refine blk_drew ?_ | refine blk_alloc ?_ _)); refine blk_far ?_ NB398_416.out _; (with_reducible repeat (first | refine blk_drewN ?_ _ | refine blk_drew ?_ | refine blk_alloc ?_ _)); refine blk_far ?_ NB398_416.out _; (with_reducible repeat (first | refine blk_drewN ?_ _ | refine blk_drew ?_ | refine blk_alloc ?_ _)); refine blk_far ?_ NB398_416.out _; (with_reducible repeat (first | refine blk_drewN ?_ _ | refine blk_drew ?_ | refine blk_alloc ?_ _)); exact BK398.out⟩
        have n6_ : Aside0 (((((w19.setCell ⟨gb416, 0, none⟩ (.int .i64 t408)).setCell ⟨gb416, 1, none⟩ (.string t409)).setCell ⟨gb416, 2, none⟩ (.slice Ao24 t410.length co24)).setCell ⟨gb416, 3, none⟩ (.slice Ao25 t413.length co25)).heap[gb407]? = some (.cells #[.int .i64 t399, .string t400, .slice Ao15 t401.length co15, .slice Ao16 t404.length co16] 52 (0, 0))) := ⟨by (with_reducible repeat (first | refine blk_drewN ?_ _ | refine blk_drew ?_ | refine blk_alloc ?_ _)); refine blk_far ?_ NB407_416.out _; (with_reducible repeat (first | refine blk_drewN ?_ _ | refine blk_drew ?_ | refine blk_alloc ?_ _)); refine blk_far ?_ NB407_416.out _; (with_reducible repeat (first | refine blk_drewN ?_ _ | refine blk_drew ?_ | refine blk_alloc ?_ _)); refine blk_far ?_ NB407_416.out _; (with_reducible repeat (first | refine blk_drewN ?_ _ | refine blk_drew ?_ | refine blk_alloc ?_ _)); refine blk_far ?_ NB407_416.out _; (with_reducible repeat (first | refine blk_drewN ?_ _ | refine blk_drew ?_ | refine blk_alloc ?_ _)); exact BK407.out⟩
        have n7_ : Aside0 (((((w19.setCell ⟨gb416, 0, none⟩ (.int .i64 t408)).setCell ⟨gb416, 1, none⟩ (.string t409)).setCell ⟨gb416, 2, none⟩ (.slice Ao24 t410.length co24)).setCell ⟨gb416, 3, none⟩ (.slice Ao25 t413.length co25)).heap[gb416]? = some (.cells #[.int .i64 t408, .string t409, .slice Ao24 t410.length co24, .slice Ao25 t413.length co25] 52 (0, 0))) := ⟨by (with_reducible repeat (first | refine blk_drewN ?_ _ | refine blk_drew ?_ | refine blk_alloc ?_ _)); refine blk_put (cs := #[.int .i64 t408, .string t409, .slice Ao24 t410.length co24, .slice none 0 0]) ?_ 3 _ rfl; (with_reducible repeat (first | refine blk_drewN ?_ _ | refine blk_drew ?_ | refine blk_alloc ?_ _)); refine blk_put (cs := #[.int .i64 t408, .string t409, .slice none 0 0, .slice none 0 0]) ?_ 2 _ rfl; (with_reducible repeat (first | refine blk_drewN ?_ _ | refine blk_drew ?_ | refine blk_alloc ?_ _)); refine blk_put (cs := #[.int .i64 t408, .string (⟨#[]⟩ : ByteArray), .slice none 0 0, .slice none 0 0]) ?_ 1 _ rfl; (with_reducible repeat (first | refine blk_drewN ?_ _ | refine blk_drew ?_ | refine blk_alloc ?_ _)); refine blk_put (cs := #[.int .i64 0, .string (⟨#[]⟩ : ByteArray), .slice none 0 0, .slice none 0 0]) ?_ 0 _ rfl; (with_reducible repeat (first | refine blk_drewN ?_ _ | refine blk_drew ?_ | refine blk_alloc ?_ _)); exact BK416.out⟩
        have n8_ : Aside0 (Below w.heap.size w ((((w19.setCell ⟨gb416, 0, none⟩ (.int .i64 t408)).setCell ⟨gb416, 1, none⟩ (.string t409)).setCell ⟨gb416, 2, none⟩ (.slice Ao24 t410.length co24)).setCell ⟨gb416, 3, none⟩ (.slice Ao25 t413.length co25))) := ⟨by repeat (first | (with_reducible first | exact HB.out | apply below_alloc | apply pw_below_drewN | apply below_drew1 | refine below_set ?_ GE397.out | refine below_set ?_ GE398.out | refine below_set ?_ GE407.out | refine below_set ?_ GE416.out) | exact HB.out)⟩
        (try clear HO403)
        (try clear HO406)
        (try clear HO412)
        (try clear HO415)
        (try clear BK397)
        (try clear BK398)
        (try clear BK407)
        (try clear BK416)
        (try clear HB)
        generalize ((((w19.setCell ⟨gb416, 0, none⟩ (.int .i64 t408)).setCell ⟨gb416, 1, none⟩ (.string t409)).setCell ⟨gb416, 2, none⟩ (.slice Ao24 t410.length co24)).setCell ⟨gb416, 3, none⟩ (.slice Ao25 t413.length co25)) = w33 at n0_ n1_ n2_ n3_ n4_ n5_ n6_ n7_ n8_ ⊢
        have HO403 := n0_
        have HO406 := n1_
        have HO412 := n2_
        have HO415 := n3_
        have BK397 := n4_
        have BK398 := n5_
        have BK407 := n6_
        have BK416 := n7_
        have HB := n8_
        clear n0_ n1_ n2_ n3_ n4_ n5_ n6_ n7_ n8_
        have n0_ := Aside0.mk (Kd.R_drew HO403.out)
        have n1_ := Aside0.mk (Kd.R_drew HO406.out)
        have n2_ := Aside0.mk (Kd.R_drew HO412.out)
        have n3_ := Aside0.mk (Kd.R_drew HO415.out)
        have n4_ := Aside0.mk (blk_drew BK397.out)
        have n5_ := Aside0.mk (blk_drew BK398.out)
        have n6_ := Aside0.mk (blk_drew BK407.out)
        have n7_ := Aside0.mk (blk_drew BK416.out)
        have n8_ := Aside0.mk (below_drew1 HB.out)
        clear HO403
        clear HO406
        clear HO412
        clear HO415
        clear BK397
        clear BK398
        clear BK407
        clear BK416
        clear HB
        have HO403 := n0_
        have HO406 := n1_
        have HO412 := n2_
        have HO415 := n3_
        have BK397 := n4_
        have BK398 := n5_
        have BK407 := n6_
        have BK416 := n7_
        have HB := n8_
        clear n0_ n1_ n2_ n3_ n4_ n5_ n6_ n7_ n8_
        refine start_ (n := 19) (S := fun w' => w'.cell? ⟨gb407, 0, none⟩ = some (.int .i64 t399) ∧ w'.cell? ⟨gb407, 1, none⟩ = some (.string t400) ∧ w'.cell? ⟨gb407, 2, none⟩ = some (.slice Ao15 t401.length co15) ∧ w'.cell? ⟨gb407, 3, none⟩ = some (.slice Ao16 t404.length co16) ∧ w'.cell? ⟨gb416, 0, none⟩ = some (.int .i64 t408) ∧ w'.cell? ⟨gb416, 1, none⟩ = some (.string t409) ∧ w'.cell? ⟨gb416, 2, none⟩ = some (.slice Ao24 t410.length co24) ∧ w'.cell? ⟨gb416, 3, none⟩ = some (.slice Ao25 t413.length co25)) (ds := []) #[false, false, false, false, false, false, false, false, false, false, false, false, false, false, false, false, false, false, false] (by kernel_rfl) rfl rfl ⟨(blk_cell BK407.out 0).trans rfl, (blk_cell BK407.out 1).trans rfl, (blk_cell BK407.out 2).trans rfl, (blk_cell BK407.out 3).trans rfl, (blk_cell BK416.out 0).trans rfl, (blk_cell BK416.out 1).trans rfl, (blk_cell BK416.out 2).trans rfl, (blk_cell BK416.out 3).trans rfl⟩ (fun hHeld => ?_); refine with_tabW phalaroperef08_Compare.tab3 phalaroperef08_Compare.bits3 (fun HT_ HW_ => ?_)
        generalize w33.drew = w34 at HO403 HO406 HO412 HO415 BK397 BK398 BK407 BK416 HB hHeld ⊢
        refine pure_ (i := 0) (N := some 11) (v := ?_) (a' := ?_) #[true, false, false, false, false, false, false, false, false, false, false, false, false, false, false, false, false, false, false] rfl rfl (any_of HT_.out (by kernel_rfl)) (fun _ _ _ h => h) (Or.inl ⟨by rfl, ?_⟩) ?_ ?_
        rotate_left
        · intro w'
          go_simp
          with_reducible rfl
        rotate_left
        · simp only [Act.put, List.setIfInBounds_toArray, List.set_cons_zero, List.set_cons_succ, i64_w, i32_w]
          rfl
        refine pure_ (i := 2) (N := some 13) (v := ?_) (a' := ?_) #[true, false, true, false, false, false, false, false, false, false, false, false, false, false, false, false, false, false, false] rfl rfl (any_of HT_.out (by kernel_rfl)) (fun _ _ _ h => h) (Or.inl ⟨by rfl, ?_⟩) ?_ ?_
        rotate_left
        · intro w'
          go_simp
          with_reducible rfl
        rotate_left
        · simp only [Act.put, List.setIfInBounds_toArray, List.set_cons_zero, List.set_cons_succ, i64_w, i32_w]
          rfl
        refine take_ (i := 1) (N := some 12) (v := ?_) (a' := ?_) #[true, true, true, false, false, false, false, false, false, false, false, false, false, false, false, false, false, false, false] rfl rfl (take_ofW HT_.out HW_.out (by kernel_rfl)) (fun _ _ _ h => h) (Or.inl ⟨by rfl, ?_⟩) hHeld ?_ ?_
        rotate_left
        · rintro w' ⟨s0, s1, s2, s3, s4, s5, s6, s7⟩
          go_simp
          with_reducible rfl
        rotate_left
        · simp only [Act.put, List.setIfInBounds_toArray, List.set_cons_zero, List.set_cons_succ, i64_w, i32_w]
          rfl
        refine take_ (i := 3) (N := some 14) (v := ?_) (a' := ?_) #[true, true, true, true, false, false, false, false, false, false, false, false, false, false, false, false, false, false, false] rfl rfl (take_ofW HT_.out HW_.out (by kernel_rfl)) (fun _ _ _ h => h) (Or.inl ⟨by rfl, ?_⟩) hHeld ?_ ?_
        rotate_left
        · rintro w' ⟨s0, s1, s2, s3, s4, s5, s6, s7⟩
          go_simp
          with_reducible rfl
        rotate_left
        · simp only [Act.put, List.setIfInBounds_toArray, List.set_cons_zero, List.set_cons_succ, i64_w, i32_w]
          rfl
        refine pure_ (i := 4) (N := some 15) (v := ?_) (a' := ?_) #[true, true, true, true, true, false, false, false, false, false, false, false, false, false, false, false, false, false, false] rfl rfl (any_of HT_.out (by kernel_rfl)) (fun _ _ _ h => h) (Or.inl ⟨by rfl, ?_⟩) ?_ ?_
        rotate_left
        · intro w'
          go_simp
          with_reducible rfl
        rotate_left
        · simp only [Act.put, List.setIfInBounds_toArray, List.set_cons_zero, List.set_cons_succ, i64_w, i32_w]
          rfl
        refine pure_ (i := 5) (N := some 16) (v := ?_) (a' := ?_) #[true, true, true, true, true, true, false, false, false, false, false, false, false, false, false, false, false, false, false] rfl rfl (any_of HT_.out (by kernel_rfl)) (fun _ _ _ h => h) (Or.inl ⟨by rfl, ?_⟩) ?_ ?_
        rotate_left
        · intro w'
          go_simp
          with_reducible rfl
        rotate_left
        · simp only [Act.put, List.setIfInBounds_toArray, List.set_cons_zero, List.set_cons_succ, i64_w, i32_w]
          rfl
        refine pure_ (i := 6) (N := some 17) (v := ?_) (a' := ?_) #[true, true, true, true, true, true, true, false, false, false, false, false, false, false, false, false, false, false, false] rfl rfl (any_of HT_.out (by kernel_rfl)) (fun _ _ _ h => h) (Or.inl ⟨by rfl, ?_⟩) ?_ ?_
        rotate_left
        · intro w'
          go_simp
          with_reducible rfl
        rotate_left
        · simp only [Act.put, List.setIfInBounds_toArray, List.set_cons_zero, List.set_cons_succ, i64_w, i32_w]
          rfl
        refine pure_ (i := 8) (N := some 19) (v := ?_) (a' := ?_) #[true, true, true, true, true, true, true, false, true, false, false, false, false, false, false, false, false, false, false] rfl rfl (any_of HT_.out (by kernel_rfl)) (fun _ _ _ h => h) (Or.inl ⟨by rfl, ?_⟩) ?_ ?_
        rotate_left
        · intro w'
          go_simp
          with_reducible rfl
        rotate_left
        · simp only [Act.put, List.setIfInBounds_toArray, List.set_cons_zero, List.set_cons_succ, i64_w, i32_w]
          rfl
        refine take_ (i := 7) (N := some 18) (v := ?_) (a' := ?_) #[true, true, true, true, true, true, true, true, true, false, false, false, false, false, false, false, false, false, false] rfl rfl (take_ofW HT_.out HW_.out (by kernel_rfl)) (fun _ _ _ h => h) (Or.inl ⟨by rfl, ?_⟩) hHeld ?_ ?_
        rotate_left
        · rintro w' ⟨s0, s1, s2, s3, s4, s5, s6, s7⟩
          go_simp
          with_reducible rfl
        rotate_left
        · simp only [Act.put, List.setIfInBounds_toArray, List.set_cons_zero, List.set_cons_succ, i64_w, i32_w]
          rfl
        refine take_ (i := 9) (N := some 20) (v := ?_) (a' := ?_) #[true, true, true, true, true, true, true, true, true, true, false, false, false, false, false, false, false, false, false] rfl rfl (take_ofW HT_.out HW_.out (by kernel_rfl)) (fun _ _ _ h => h) (Or.inl ⟨by rfl, ?_⟩) hHeld ?_ ?_
        rotate_left
        · rintro w' ⟨s0, s1, s2, s3, s4, s5, s6, s7⟩
          go_simp
          with_reducible rfl
        rotate_left
        · simp only [Act.put, List.setIfInBounds_toArray, List.set_cons_zero, List.set_cons_succ, i64_w, i32_w]
          rfl
        refine pure_ (i := 10) (N := some 21) (v := ?_) (a' := ?_) #[true, true, true, true, true, true, true, true, true, true, true, false, false, false, false, false, false, false, false] rfl rfl (any_of HT_.out (by kernel_rfl)) (fun _ _ _ h => h) (Or.inl ⟨by rfl, ?_⟩) ?_ ?_
        rotate_left
        · intro w'
          go_simp
          with_reducible rfl
        rotate_left
        · simp only [Act.put, List.setIfInBounds_toArray, List.set_cons_zero, List.set_cons_succ, i64_w, i32_w]
          rfl
        refine pure_ (i := 11) (N := some 22) (v := ?_) (a' := ?_) #[true, true, true, true, true, true, true, true, true, true, true, true, false, false, false, false, false, false, false] rfl rfl (any_of HT_.out (by kernel_rfl)) (fun _ _ _ h => h) (Or.inl ⟨by rfl, ?_⟩) ?_ ?_
        rotate_left
        · intro w'
          go_simp
          with_reducible rfl
        rotate_left
        · simp only [Act.put, List.setIfInBounds_toArray, List.set_cons_zero, List.set_cons_succ, i64_w, i32_w]
          rfl
        refine take_ (i := 12) (N := some 23) (v := ?_) (a' := ?_) #[true, true, true, true, true, true, true, true, true, true, true, true, true, false, false, false, false, false, false] rfl rfl (take_ofW HT_.out HW_.out (by kernel_rfl)) (fun _ _ _ h => h) (Or.inl ⟨by rfl, ?_⟩) hHeld ?_ ?_
        rotate_left
        · rintro w' ⟨s0, s1, s2, s3, s4, s5, s6, s7⟩
          go_simp
          with_reducible rfl
        rotate_left
        · simp only [Act.put, List.setIfInBounds_toArray, List.set_cons_zero, List.set_cons_succ, i64_w, i32_w]
          rfl
        refine take_ (i := 14) (N := some 25) (v := ?_) (a' := ?_) #[true, true, true, true, true, true, true, true, true, true, true, true, true, false, true, false, false, false, false] rfl rfl (take_ofW HT_.out HW_.out (by kernel_rfl)) (fun _ _ _ h => h) (Or.inl ⟨by rfl, ?_⟩) hHeld ?_ ?_
        rotate_left
        · rintro w' ⟨s0, s1, s2, s3, s4, s5, s6, s7⟩
          go_simp
          with_reducible rfl
        rotate_left
        · simp only [Act.put, List.setIfInBounds_toArray, List.set_cons_zero, List.set_cons_succ, i64_w, i32_w]
          rfl
        refine one_ (i := 13) (N := some 24) #[true, true, true, true, true, true, true, true, true, true, true, true, true, true, true, false, false, false, false] rfl rfl (one_of HT_.out (by kernel_rfl)) (by decide) (fun K hK => ?_)
        refine goes_ Try.func52 (by kernel_rfl) rfl #[.agg #[.int .i64 t399, .string t400, .slice Ao15 t401.length co15, .slice Ao16 t404.length co16]] (by rfl) rfl rfl (by (try simp only [List.map_toArray, List.map_cons, List.map_nil]); first | done | rfl | (simp only [List.length_drop, List.length_take]; rfl)) ?_
        with_reducible refine (phalaroperef08_Texts.calls k t399 t400 _ _ t401 _ _ t404 t417 _ ?side1 ?side2 ?side3 ?side4 A30.out).mono ?_
        (case side1 => repeat (first | exact (Kd.R_reads' HO403.out).2.2 | (with_reducible refine Kd.C_alloc ?_ _) | (with_reducible refine Kd.C_drewN ?_ _) | (with_reducible refine Kd.C_drew ?_)))
        (case side2 => exact (Kd.R_reads' HO403.out).2.1)
        (case side3 => repeat (first | exact (Kd.R_reads' HO406.out).2.2 | (with_reducible refine Kd.C_alloc ?_ _) | (with_reducible refine Kd.C_drewN ?_ _) | (with_reducible refine Kd.C_drew ?_)))
        (case side4 => exact (Kd.R_reads' HO406.out).2.1)
        rintro e w35 ⟨v418, rfl, ho0, hb⟩
        refine ⟨_, rfl, ?_⟩
        have n0_ := Aside0.mk (Kd.R_elder' (by (with_reducible repeat (first | apply Kd.R_alloc | apply Kd.R_drewN | apply Kd.R_drew)); exact HO403.out) (Kd.R_base ho0) hb)
        have n1_ := Aside0.mk (Kd.R_below (by (with_reducible repeat (first | apply Kd.R_alloc | apply Kd.R_drewN | apply Kd.R_drew)); exact HO406.out) hb)
        have n2_ := Aside0.mk (Kd.R_elder' (by (with_reducible repeat (first | apply Kd.R_alloc | apply Kd.R_drewN | apply Kd.R_drew)); exact HO412.out) (Kd.R_base ho0) hb)
        have n3_ := Aside0.mk (Kd.R_below (by (with_reducible repeat (first | apply Kd.R_alloc | apply Kd.R_drewN | apply Kd.R_drew)); exact HO415.out) hb)
        have n4_ := Aside0.mk (Kd.R_lower (Kd.R_new' (Kd.R_new' ho0 (Kd.R_lt (by (with_reducible repeat (first | apply Kd.R_alloc | apply Kd.R_drewN | apply Kd.R_drew)); exact HO403.out))) (Kd.R_lt (by (with_reducible repeat (first | apply Kd.R_alloc | apply Kd.R_drewN | apply Kd.R_drew)); exact HO412.out))) (below_size (by repeat (first | (with_reducible first | exact HB.out | apply below_alloc | apply pw_below_drewN | apply below_drew1 | refine below_set ?_ GE397.out | refine below_set ?_ GE398.out | refine below_set ?_ GE407.out | refine below_set ?_ GE416.out) | exact HB.out))))
        have n5_ := Aside0.mk (blk_below (g := gb397) (o := .cells #[.int .i64 a0_0, .string a0_1, .slice A0_2 l0_2.length c0_2, .slice A0_3 l0_3.length c0_3] 52 (0, 0)) (by (with_reducible repeat (first | refine blk_drewN ?_ _ | refine blk_drew ?_ | refine blk_alloc ?_ _)); exact BK397.out) hb)
        have n6_ := Aside0.mk (blk_below (g := gb398) (o := .cells #[.int .i64 a1_0, .string a1_1, .slice A1_2 l1_2.length c1_2, .slice A1_3 l1_3.length c1_3] 52 (0, 0)) (by (with_reducible repeat (first | refine blk_drewN ?_ _ | refine blk_drew ?_ | refine blk_alloc ?_ _)); exact BK398.out) hb)
        have n7_ := Aside0.mk (blk_below (g := gb407) (o := .cells #[.int .i64 t399, .string t400, .slice Ao15 t401.length co15, .slice Ao16 t404.length co16] 52 (0, 0)) (by (with_reducible repeat (first | refine blk_drewN ?_ _ | refine blk_drew ?_ | refine blk_alloc ?_ _)); exact BK407.out) hb)
        have n8_ := Aside0.mk (blk_below (g := gb416) (o := .cells #[.int .i64 t408, .string t409, .slice Ao24 t410.length co24, .slice Ao25 t413.length co25] 52 (0, 0)) (by (with_reducible repeat (first | refine blk_drewN ?_ _ | refine blk_drew ?_ | refine blk_alloc ?_ _)); exact BK416.out) hb)
        have n9_ := Aside0.mk (below_step (by repeat (first | (with_reducible first | exact HB.out | apply below_alloc | apply pw_below_drewN | apply below_drew1 | refine below_set ?_ GE397.out | refine below_set ?_ GE398.out | refine below_set ?_ GE407.out | refine below_set ?_ GE416.out) | exact HB.out)) hb)
        clear HO403
        clear HO406
        clear HO412
        clear HO415
        clear BK397
        clear BK398
        clear BK407
        clear BK416
        clear HB
        have HO403 := n0_
        have HO406 := n1_
        have HO412 := n2_
        have HO415 := n3_
        have HO419 := n4_
        have BK397 := n5_
        have BK398 := n6_
        have BK407 := n7_
        have BK416 := n8_
        have HB := n9_
        clear n0_ n1_ n2_ n3_ n4_ n5_ n6_ n7_ n8_ n9_
        (try clear hb)
        (try clear hb2)
        (try clear hk)
        (try clear hi)
        (try clear ho0)
        refine hK.out _ _ ⟨(blk_cell BK407.out 0).trans rfl, (blk_cell BK407.out 1).trans rfl, (blk_cell BK407.out 2).trans rfl, (blk_cell BK407.out 3).trans rfl, (blk_cell BK416.out 0).trans rfl, (blk_cell BK416.out 1).trans rfl, (blk_cell BK416.out 2).trans rfl, (blk_cell BK416.out 3).trans rfl⟩ (fun hHeld => ?_)
        clear hK K
        refine norm_ (a' := ?_) ?_ ?_
        rotate_left
        · show Act.put _ (some 24) _ = _
          simp only [Act.put, List.setIfInBounds_toArray, List.set_cons_zero, List.set_cons_succ, i64_w, i32_w]
          rfl
        refine one_ (i := 15) (N := some 26) #[true, true, true, true, true, true, true, true, true, true, true, true, true, true, true, true, false, false, false] rfl rfl (one_of HT_.out (by kernel_rfl)) (by decide) (fun K hK => ?_)
        refine goes_ Try.func52 (by kernel_rfl) rfl #[.agg #[.int .i64 t408, .string t409, .slice Ao24 t410.length co24, .slice Ao25 t413.length co25]] (by rfl) rfl rfl (by (try simp only [List.map_toArray, List.map_cons, List.map_nil]); first | done | rfl | (simp only [List.length_drop, List.length_take]; rfl)) ?_
        with_reducible refine (phalaroperef08_Texts.calls k t408 t409 _ _ t410 _ _ t413 t420 _ ?side1 ?side2 ?side3 ?side4 A31.out).mono ?_
        (case side1 => repeat (first | exact (Kd.R_reads' HO412.out).2.2 | (with_reducible refine Kd.C_alloc ?_ _) | (with_reducible refine Kd.C_drewN ?_ _) | (with_reducible refine Kd.C_drew ?_)))
        (case side2 => exact (Kd.R_reads' HO412.out).2.1)
        (case side3 => repeat (first | exact (Kd.R_reads' HO415.out).2.2 | (with_reducible refine Kd.C_alloc ?_ _) | (with_reducible refine Kd.C_drewN ?_ _) | (with_reducible refine Kd.C_drew ?_)))
        (case side4 => exact (Kd.R_reads' HO415.out).2.1)
        rintro e w36 ⟨v421, rfl, ho0, hb⟩
        refine ⟨_, rfl, ?_⟩
        have n0_ := Aside0.mk (Kd.R_elder' (by (with_reducible repeat (first | apply Kd.R_alloc | apply Kd.R_drewN | apply Kd.R_drew)); exact HO403.out) (Kd.R_base ho0) hb)
        have n1_ := Aside0.mk (Kd.R_below (by (with_reducible repeat (first | apply Kd.R_alloc | apply Kd.R_drewN | apply Kd.R_drew)); exact HO406.out) hb)
        have n2_ := Aside0.mk (Kd.R_elder' (by (with_reducible repeat (first | apply Kd.R_alloc | apply Kd.R_drewN | apply Kd.R_drew)); exact HO412.out) (Kd.R_base ho0) hb)
        have n3_ := Aside0.mk (Kd.R_below (by (with_reducible repeat (first | apply Kd.R_alloc | apply Kd.R_drewN | apply Kd.R_drew)); exact HO415.out) hb)
        have n4_ := Aside0.mk (Kd.R_elder' (by (with_reducible repeat (first | apply Kd.R_alloc | apply Kd.R_drewN | apply Kd.R_drew)); exact HO419.out) (Kd.R_base ho0) hb)
        have n5_ := Aside0.mk (Kd.R_lower (Kd.R_new' (Kd.R_new' (Kd.R_new' ho0 (Kd.R_lt (by (with_reducible repeat (first | apply Kd.R_alloc | apply Kd.R_drewN | apply Kd.R_drew)); exact HO403.out))) (Kd.R_lt (by (with_reducible repeat (first | apply Kd.R_alloc | apply Kd.R_drewN | apply Kd.R_drew)); exact HO412.out))) (Kd.R_lt (by (with_reducible repeat (first | apply Kd.R_alloc | apply Kd.R_drewN | apply Kd.R_drew)); exact HO419.out))) (below_size (by repeat (first | (with_reducible first | exact HB.out | apply below_alloc | apply pw_below_drewN | apply below_drew1 | refine below_set ?_ GE397.out | refine below_set ?_ GE398.out | refine below_set ?_ GE407.out | refine below_set ?_ GE416.out) | exact HB.out))))
        have n6_ := Aside0.mk (blk_below (g := gb397) (o := .cells #[.int .i64 a0_0, .string a0_1, .slice A0_2 l0_2.length c0_2, .slice A0_3 l0_3.length c0_3] 52 (0, 0)) (by (with_reducible repeat (first | refine blk_drewN ?_ _ | refine blk_drew ?_ | refine blk_alloc ?_ _)); exact BK397.out) hb)
        have n7_ := Aside0.mk (blk_below (g := gb398) (o := .cells #[.int .i64 a1_0, .string a1_1, .slice A1_2 l1_2.length c1_2, .slice A1_3 l1_3.length c1_3] 52 (0, 0)) (by (with_reducible repeat (first | refine blk_drewN ?_ _ | refine blk_drew ?_ | refine blk_alloc ?_ _)); exact BK398.out) hb)
        have n8_ := Aside0.mk (blk_below (g := gb407) (o := .cells #[.int .i64 t399, .string t400, .slice Ao15 t401.length co15, .slice Ao16 t404.length co16] 52 (0, 0)) (by (with_reducible repeat (first | refine blk_drewN ?_ _ | refine blk_drew ?_ | refine blk_alloc ?_ _)); exact BK407.out) hb)
        have n9_ := Aside0.mk (blk_below (g := gb416) (o := .cells #[.int .i64 t408, .string t409, .slice Ao24 t410.length co24, .slice Ao25 t413.length co25] 52 (0, 0)) (by (with_reducible repeat (first | refine blk_drewN ?_ _ | refine blk_drew ?_ | refine blk_alloc ?_ _)); exact BK416.out) hb)
        have n10_ := Aside0.mk (below_step (by repeat (first | (with_reducible first | exact HB.out | apply below_alloc | apply pw_below_drewN | apply below_drew1 | refine below_set ?_ GE397.out | refine below_set ?_ GE398.out | refine below_set ?_ GE407.out | refine below_set ?_ GE416.out) | exact HB.out)) hb)
        clear HO403
        clear HO406
        clear HO412
        clear HO415
        clear HO419
        clear BK397
        clear BK398
        clear BK407
        clear BK416
        clear HB
        have HO403 := n0_
        have HO406 := n1_
        have HO412 := n2_
        have HO415 := n3_
        have HO419 := n4_
        have HO422 := n5_
        have BK397 := n6_
        have BK398 := n7_
        have BK407 := n8_
        have BK416 := n9_
        have HB := n10_
        clear n0_ n1_ n2_ n3_ n4_ n5_ n6_ n7_ n8_ n9_ n10_
        (try clear hb)
        (try clear hb2)
        (try clear hk)
        (try clear hi)
        (try clear ho0)
        obtain ⟨Ao37, co37, eo37⟩ := Kd.R_slice HO419.out
        (first | subst eo37 | (injection eo37 with f1_ f2_ f3_; have f4_ := f1_.symm; have f5_ := f3_.symm; clear f1_ f2_ f3_; subst f4_; subst f5_))
        obtain ⟨Ao38, co38, eo38⟩ := Kd.R_slice HO422.out
        (first | subst eo38 | (injection eo38 with f1_ f2_ f3_; have f4_ := f1_.symm; have f5_ := f3_.symm; clear f1_ f2_ f3_; subst f4_; subst f5_))
        refine hK.out _ _ ⟨(blk_cell BK407.out 0).trans rfl, (blk_cell BK407.out 1).trans rfl, (blk_cell BK407.out 2).trans rfl, (blk_cell BK407.out 3).trans rfl, (blk_cell BK416.out 0).trans rfl, (blk_cell BK416.out 1).trans rfl, (blk_cell BK416.out 2).trans rfl, (blk_cell BK416.out 3).trans rfl⟩ (fun hHeld => ?_)
        clear hK K
        refine norm_ (a' := ?_) ?_ ?_
        rotate_left
        · show Act.put _ (some 26) _ = _
          simp only [Act.put, List.setIfInBounds_toArray, List.set_cons_zero, List.set_cons_succ, i64_w, i32_w]
          rfl
        refine one_ (i := 16) (N := some 27) #[true, true, true, true, true, true, true, true, true, true, true, true, true, true, true, true, true, false, false] rfl rfl (one_of HT_.out (by kernel_rfl)) (by decide) (fun K hK => ?_)
        refine goes_ Try.func78 (by kernel_rfl) rfl #[.slice Ao37 t417.length co37, .slice Ao38 t420.length co38] (by rfl) rfl rfl (by (try simp only [List.map_toArray, List.map_cons, List.map_nil]); first | done | rfl | (simp only [List.length_drop, List.length_take]; rfl)) ?_
        with_reducible refine (phalaroperef08_less.calls k _ _ t417 _ _ t420 t423 _ ?side1 ?side2 ?side3 ?side4 A32.out).mono ?_
        (case side1 => repeat (first | exact (Kd.R_reads' HO419.out).2.2 | (with_reducible refine Kd.C_alloc ?_ _) | (with_reducible refine Kd.C_drewN ?_ _) | (with_reducible refine Kd.C_drew ?_)))
        (case side2 => exact (Kd.R_reads' HO419.out).2.1)
        (case side3 => repeat (first | exact (Kd.R_reads' HO422.out).2.2 | (with_reducible refine Kd.C_alloc ?_ _) | (with_reducible refine Kd.C_drewN ?_ _) | (with_reducible refine Kd.C_drew ?_)))
        (case side4 => exact (Kd.R_reads' HO422.out).2.1)
        rintro e w' ⟨rfl, ⟨nd, rfl⟩⟩
        refine ⟨_, rfl, ?_⟩
        refine hK.out _ _ ⟨(blk_cell BK407.out 0).trans rfl, (blk_cell BK407.out 1).trans rfl, (blk_cell BK407.out 2).trans rfl, (blk_cell BK407.out 3).trans rfl, (blk_cell BK416.out 0).trans rfl, (blk_cell BK416.out 1).trans rfl, (blk_cell BK416.out 2).trans rfl, (blk_cell BK416.out 3).trans rfl⟩ (fun hHeld => ?_)
        clear hK K
        refine norm_ (a' := ?_) ?_ ?_
        rotate_left
        · show Act.put _ (some 27) _ = _
          simp only [Act.put, List.setIfInBounds_toArray, List.set_cons_zero, List.set_cons_succ, i64_w, i32_w]
          rfl
        refine pure_ (i := 17) (N := some 28) (v := ?_) (a' := ?_) #[true, true, true, true, true, true, true, true, true, true, true, true, true, true, true, true, true, true, false] rfl rfl (any_of HT_.out (by kernel_rfl)) (fun _ _ _ h => h) (Or.inl ⟨by rfl, ?_⟩) ?_ ?_
        rotate_left
        · intro w'
          go_simp
          with_reducible rfl
        rotate_left
        · simp only [Act.put, List.setIfInBounds_toArray, List.set_cons_zero, List.set_cons_succ, i64_w, i32_w]
          rfl
        refine pure_ (i := 18) (N := some 29) (v := ?_) (a' := ?_) #[true, true, true, true, true, true, true, true, true, true, true, true, true, true, true, true, true, true, true] rfl rfl (any_of HT_.out (by kernel_rfl)) (fun _ _ _ h => h) (Or.inl ⟨by rfl, ?_⟩) ?_ ?_
        rotate_left
        · intro w'
          go_simp
          with_reducible rfl
        rotate_left
        · simp only [Act.put, List.setIfInBounds_toArray, List.set_cons_zero, List.set_cons_succ, i64_w, i32_w]
          rfl
        refine done_ (done_of HT_.out (by kernel_rfl)) ?_
        try go_wp2
        go_meet
        case rel => exact ⟨_, (t423), (by first | rfl | (simp; done) | (simp [*]; done)), H', ⟨by first | omega | exact Nat.le_refl _⟩, ⟨by (with_reducible repeat (first | apply Kd.R_alloc | apply Kd.R_drewN | apply Kd.R_drew)); exact Kd.R_mono HO403.out (fun _ hk => hk.1.1)⟩, ⟨by (with_reducible repeat (first | apply Kd.R_alloc | apply Kd.R_drewN | apply Kd.R_drew)); exact HO406.out⟩, ⟨by (with_reducible repeat (first | apply Kd.R_alloc | apply Kd.R_drewN | apply Kd.R_drew)); exact Kd.R_mono HO412.out (fun _ hk => hk.1.1)⟩, ⟨by (with_reducible repeat (first | apply Kd.R_alloc | apply Kd.R_drewN | apply Kd.R_drew)); exact HO415.out⟩, ⟨by (with_reducible repeat (first | refine blk_drewN ?_ _ | refine blk_drew ?_ | refine blk_alloc ?_ _)); exact BK397.out⟩, ⟨by (with_reducible repeat (first | refine blk_drewN ?_ _ | refine blk_drew ?_ | refine blk_alloc ?_ _)); exact BK398.out⟩, ⟨by (with_reducible repeat (first | refine blk_drewN ?_ _ | refine blk_drew ?_ | refine blk_alloc ?_ _)); exact BK407.out⟩, ⟨by (with_reducible repeat (first | refine blk_drewN ?_ _ | refine blk_drew ?_ | refine blk_alloc ?_ _)); exact BK416.out⟩, ⟨by repeat (first | (with_reducible first | exact HB.out | apply below_alloc | apply pw_below_drewN | apply below_drew1 | refine below_set ?_ GE397.out | refine below_set ?_ GE398.out | refine below_set ?_ GE407.out | refine below_set ?_ GE416.out) | exact HB.out)⟩⟩
      · rw [if_neg c29] at H
        have c29b0 : (t399 == t408) = false := beq_eq_false_iff_ne.mpr c29
        have c29b1 : (t399 != t408) = true := bne_iff_ne.mpr c29
        have H' := Aside0.mk H
        clear H
        try go_wp2
        have n0_ : Aside0 (Kd.R Kd.string 9 ((((w19.setCell ⟨gb416, 0, none⟩ (.int .i64 t408)).setCell ⟨gb416, 1, none⟩ (.string t409)).setCell ⟨gb416, 2, none⟩ (.slice Ao24 t410.length co24)).setCell ⟨gb416, 3, none⟩ (.slice Ao25 t413.length co25)) w.heap.size (fun k_ => some k_ ≠ (.slice Ao24 t410.length co24 : Value).ownBlock) (.slice Ao15 t401.length co15) t401) := ⟨by (with_reducible repeat (first | apply Kd.R_alloc | apply Kd.R_drewN | apply Kd.R_drew)); exact Kd.R_mono (Kd.R_far (p := ⟨gb416, 3, none⟩) (Kd.R_far (p := ⟨gb416, 2, none⟩) (Kd.R_far (p := ⟨gb416, 1, none⟩) (Kd.R_far (p := ⟨gb416, 0, none⟩) (Kd.R_types HO403.out BK416.out (by decide)) (fun _ hk => hk.2) (.int .i64 t408)) (fun _ hk => hk.2) (.string t409)) (fun _ hk => hk.2) (.slice Ao24 t410.length co24)) (fun _ hk => hk.2) (.slice Ao25 t413.length co25)) (fun _ hk => hk.1.2)⟩
        have n1_ : Aside0 (Kd.R k76 76 ((((w19.setCell ⟨gb416, 0, none⟩ (.int .i64 t408)).setCell ⟨gb416, 1, none⟩ (.string t409)).setCell ⟨gb416, 2, none⟩ (.slice Ao24 t410.length co24)).setCell ⟨gb416, 3, none⟩ (.slice Ao25 t413.length co25)) w.heap.size (fun k_ => some k_ ≠ (.slice Ao25 t413.length co25 : Value).ownBlock) (.slice Ao16 t404.length co16) t404) := ⟨by (with_reducible repeat (first | apply Kd.R_alloc | apply Kd.R_drewN | apply Kd.R_drew)); exact Kd.R_mono (Kd.R_far (p := ⟨gb416, 3, none⟩) (Kd.R_far (p := ⟨gb416, 2, none⟩) (Kd.R_far (p := ⟨gb416, 1, none⟩) (Kd.R_far (p := ⟨gb416, 0, none⟩) (Kd.R_types HO406.out BK416.out (by decide)) (fun _ hk => hk.2) (.int .i64 t408)) (fun _ hk => hk.2) (.string t409)) (fun _ hk => hk.2) (.slice Ao24 t410.length co24)) (fun _ hk => hk.2) (.slice Ao25 t413.length co25)) (fun _ hk => hk.1.2)⟩
        have n2_ : Aside0 (Kd.R Kd.string 9 ((((w19.setCell ⟨gb416, 0, none⟩ (.int .i64 t408)).setCell ⟨gb416, 1, none⟩ (.string t409)).setCell ⟨gb416, 2, none⟩ (.slice Ao24 t410.length co24)).setCell ⟨gb416, 3, none⟩ (.slice Ao25 t413.length co25)) w.heap.size (fun k_ => some k_ ≠ (.slice Ao15 t401.length co15 : Value).ownBlock) (.slice Ao24 t410.length co24) t410) := ⟨by (with_reducible repeat (first | apply Kd.R_alloc | apply Kd.R_drewN | apply Kd.R_drew)); exact Kd.R_mono (Kd.R_far (p := ⟨gb416, 3, none⟩) (Kd.R_far (p := ⟨gb416, 2, none⟩) (Kd.R_far (p := ⟨gb416, 1, none⟩) (Kd.R_far (p := ⟨gb416, 0, none⟩) (Kd.R_types HO412.out BK416.out (by decide)) (fun _ hk => hk.2) (.int .i64 t408)) (fun _ hk => hk.2) (.string t409)) (fun _ hk => hk.2) (.slice Ao24 t410.length co24)) (fun _ hk => hk.2) (.slice Ao25 t413.length co25)) (fun _ hk => hk.1.2)⟩
        have n3_ : Aside0 (Kd.R k76 76 ((((w19.setCell ⟨gb416, 0, none⟩ (.int .i64 t408)).setCell ⟨gb416, 1, none⟩ (.string t409)).setCell ⟨gb416, 2, none⟩ (.slice Ao24 t410.length co24)).setCell ⟨gb416, 3, none⟩ (.slice Ao25 t413.length co25)) w.heap.size (fun k_ => some k_ ≠ (.slice Ao16 t404.length co16 : Value).ownBlock) (.slice Ao25 t413.length co25) t413) := ⟨by (with_reducible repeat (first | apply Kd.R_alloc | apply Kd.R_drewN | apply Kd.R_drew)); exact Kd.R_mono (Kd.R_far (p := ⟨gb416, 3, none⟩) (Kd.R_far (p := ⟨gb416, 2, none⟩) (Kd.R_far (p := ⟨gb416, 1, none⟩) (Kd.R_far (p := ⟨gb416, 0, none⟩) (Kd.R_types HO415.out BK416.out (by decide)) (fun _ hk => hk.2) (.int .i64 t408)) (fun _ hk => hk.2) (.string t409)) (fun _ hk => hk.2) (.slice Ao24 t410.length co24)) (fun _ hk => hk.2) (.slice Ao25 t413.length co25)) (fun _ hk => hk.1.2)⟩
        have n4_ : Aside0 (((((w19.setCell ⟨gb416, 0, none⟩ (.int .i64 t408)).setCell ⟨gb416, 1, none⟩ (.string t409)).setCell ⟨gb416, 2, none⟩ (.slice Ao24 t410.length co24)).setCell ⟨gb416, 3, none⟩ (.slice Ao25 t413.length co25)).heap[gb397]? = some (.cells #[.int .i64 a0_0, .string a0_1, .slice A0_2 l0_2.length c0_2, .slice A0_3 l0_3.length c0_3] 52 (0, 0))) := ⟨by (with_reducible repeat (first | refine blk_drewN ?_ _ | refine blk_drew ?_ | refine blk_alloc ?_ _)); refine blk_far ?_ NB397_416.out _; (with_reducible repeat (first | refine blk_drewN ?_ _ | refine blk_drew ?_ | refine blk_alloc ?_ _)); refine blk_far ?_ NB397_416.out _; (with_reducible repeat (first | refine blk_drewN ?_ _ | refine blk_drew ?_ | refine blk_alloc ?_ _)); refine blk_far ?_ NB397_416.out _; (with_reducible repeat (first | refine blk_drewN ?_ _ | refine blk_drew ?_ | refine blk_alloc ?_ _)); refine blk_far ?_ NB397_416.out _; (with_reducible repeat (first | refine blk_drewN ?_ _ | refine blk_drew ?_ | refine blk_alloc ?_ _)); exact BK397.out⟩
        have n5_ : Aside0 (((((w19.setCell ⟨gb416, 0, none⟩ (.int .i64 t408)).setCell ⟨gb416, 1, none⟩ (.string t409)).setCell ⟨gb416, 2, none⟩ (.slice Ao24 t410.length co24)).setCell ⟨gb416, 3, none⟩ (.slice Ao25 t413.length co25)).heap[gb398]? = some (.cells #[.int .i64 a1_0, .string a1_1, .slice A1_2 l1_2.length c1_2, .slice A1_3 l1_3.length c1_3] 52 (0, 0))) := ⟨by (with_reducible repeat (first | refine blk_drewN ?_ _ | refine blk_drew ?_ | refine blk_alloc ?_ _)); refine blk_far ?_ NB398_416.out _; (with_reducible repeat (first | refine blk_drewN ?_ _ | refine blk_drew ?_ | refine blk_alloc ?_ _)); refine blk_far ?_ NB398_416.out _; (with_reducible repeat (first | refine blk_drewN ?_ _ | refine blk_drew ?_ | refine blk_alloc ?_ _)); refine blk_far ?_ NB398_416.out _; (with_reducible repeat (first | refine blk_drewN ?_ _ | refine blk_drew ?_ | refine blk_alloc ?_ _)); refine blk_far ?_ NB398_416.out _; (with_reducible repeat (first | refine blk_drewN ?_ _ | refine blk_drew ?_ | refine blk_alloc ?_ _)); exact BK398.out⟩
        have n6_ : Aside0 (((((w19.setCell ⟨gb416, 0, none⟩ (.int .i64 t408)).setCell ⟨gb416, 1, none⟩ (.string t409)).setCell ⟨gb416, 2, none⟩ (.slice Ao24 t410.length co24)).setCell ⟨gb416, 3, none⟩ (.slice Ao25 t413.length co25)).heap[gb407]? = some (.cells #[.int .i64 t399, .string t400, .slice Ao15 t401.length co15, .slice Ao16 t404.length co16] 52 (0, 0))) := ⟨by (with_reducible repeat (first | refine blk_drewN ?_ _ | refine blk_drew ?_ | refine blk_alloc ?_ _)); refine blk_far ?_ NB407_416.out _; (with_reducible repeat (first | refine blk_drewN ?_ _ | refine blk_drew ?_ | refine blk_alloc ?_ _)); refine blk_far ?_ NB407_416.out _; (with_reducible repeat (first | refine blk_drewN ?_ _ | refine blk_drew ?_ | refine blk_alloc ?_ _)); refine blk_far ?_ NB407_416.out _; (with_reducible repeat (first | refine blk_drewN ?_ _ | refine blk_drew ?_ | refine blk_alloc ?_ _)); refine blk_far ?_ NB407_416.out _; (with_reducible repeat (first | refine blk_drewN ?_ _ | refine blk_drew ?_ | refine blk_alloc ?_ _)); exact BK407.out⟩
        have n7_ : Aside0 (((((w19.setCell ⟨gb416, 0, none⟩ (.int .i64 t408)).setCell ⟨gb416, 1, none⟩ (.string t409)).setCell ⟨gb416, 2, none⟩ (.slice Ao24 t410.length co24)).setCell ⟨gb416, 3, none⟩ (.slice Ao25 t413.length co25)).heap[gb416]? = some (.cells #[.int .i64 t408, .string t409, .slice Ao24 t410.length co24, .slice Ao25 t413.length co25] 52 (0, 0))) := ⟨by (with_reducible repeat (first | refine blk_drewN ?_ _ | refine blk_drew ?_ | refine blk_alloc ?_ _)); refine blk_put (cs := #[.int .i64 t408, .string t409, .slice Ao24 t410.length co24, .slice none 0 0]) ?_ 3 _ rfl; (with_reducible repeat (first | refine blk_drewN ?_ _ | refine blk_drew ?_ | refine blk_alloc ?_ _)); refine blk_put (cs := #[.int .i64 t408, .string t409, .slice none 0 0, .slice none 0 0]) ?_ 2 _ rfl; (with_reducible repeat (first | refine blk_drewN ?_ _ | refine blk_drew ?_ | refine blk_alloc ?_ _)); refine blk_put (cs := #[.int .i64 t408, .string (⟨#[]⟩ : ByteArray), .slice none 0 0, .slice none 0 0]) ?_ 1 _ rfl; (with_reducible repeat (first | refine blk_drewN ?_ _ | refine blk_drew ?_ | refine blk_alloc ?_ _)); refine blk_put (cs := #[.int .i64 0, .string (⟨#[]⟩ : ByteArray), .slice none 0 0, .slice none 0 0]) ?_ 0 _ rfl; (with_reducible repeat (first | refine blk_drewN ?_ _ | refine blk_drew ?_ | refine blk_alloc ?_ _)); exact BK416.out⟩
        have n8_ : Aside0 (Below w.heap.size w ((((w19.setCell ⟨gb416, 0, none⟩ (.int .i64 t408)).setCell ⟨gb416, 1, none⟩ (.string t409)).setCell ⟨gb416, 2, none⟩ (.slice Ao24 t410.length co24)).setCell ⟨gb416, 3, none⟩ (.slice Ao25 t413.length co25))) := ⟨by repeat (first | (with_reducible first | exact HB.out | apply below_alloc | apply pw_below_drewN | apply below_drew1 | refine below_set ?_ GE397.out | refine below_set ?_ GE398.out | refine below_set ?_ GE407.out | refine below_set ?_ GE416.out) | exact HB.out)⟩
        (try clear HO403)
        (try clear HO406)
        (try clear HO412)
        (try clear HO415)
        (try clear BK397)
        (try clear BK398)
        (try clear BK407)
        (try clear BK416)
        (try clear HB)
        generalize ((((w19.setCell ⟨gb416, 0, none⟩ (.int .i64 t408)).setCell ⟨gb416, 1, none⟩ (.string t409)).setCell ⟨gb416, 2, none⟩ (.slice Ao24 t410.length co24)).setCell ⟨gb416, 3, none⟩ (.slice Ao25 t413.length co25)) = w39 at n0_ n1_ n2_ n3_ n4_ n5_ n6_ n7_ n8_ ⊢
        have HO403 := n0_
        have HO406 := n1_
        have HO412 := n2_
        have HO415 := n3_
        have BK397 := n4_
        have BK398 := n5_
        have BK407 := n6_
        have BK416 := n7_
        have HB := n8_
        clear n0_ n1_ n2_ n3_ n4_ n5_ n6_ n7_ n8_
        have n0_ := Aside0.mk (Kd.R_drew HO403.out)
        have n1_ := Aside0.mk (Kd.R_drew HO406.out)
        have n2_ := Aside0.mk (Kd.R_drew HO412.out)
        have n3_ := Aside0.mk (Kd.R_drew HO415.out)
        have n4_ := Aside0.mk (blk_drew BK397.out)
        have n5_ := Aside0.mk (blk_drew BK398.out)
        have n6_ := Aside0.mk (blk_drew BK407.out)
        have n7_ := Aside0.mk (blk_drew BK416.out)
        have n8_ := Aside0.mk (below_drew1 HB.out)
        clear HO403
        clear HO406
        clear HO412
        clear HO415
        clear BK397
        clear BK398
        clear BK407
        clear BK416
        clear HB
        have HO403 := n0_
        have HO406 := n1_
        have HO412 := n2_
        have HO415 := n3_
        have BK397 := n4_
        have BK398 := n5_
        have BK407 := n6_
        have BK416 := n7_
        have HB := n8_
        clear n0_ n1_ n2_ n3_ n4_ n5_ n6_ n7_ n8_
        refine start_ (n := 19) (S := fun w' => w'.cell? ⟨gb407, 0, none⟩ = some (.int .i64 t399) ∧ w'.cell? ⟨gb407, 1, none⟩ = some (.string t400) ∧ w'.cell? ⟨gb407, 2, none⟩ = some (.slice Ao15 t401.length co15) ∧ w'.cell? ⟨gb407, 3, none⟩ = some (.slice Ao16 t404.length co16) ∧ w'.cell? ⟨gb416, 0, none⟩ = some (.int .i64 t408) ∧ w'.cell? ⟨gb416, 1, none⟩ = some (.string t409) ∧ w'.cell? ⟨gb416, 2, none⟩ = some (.slice Ao24 t410.length co24) ∧ w'.cell? ⟨gb416, 3, none⟩ = some (.slice Ao25 t413.length co25)) (ds := []) #[false, false, false, false, false, false, false, false, false, false, false, false, false, false, false, false, false, false, false] (by kernel_rfl) rfl rfl ⟨(blk_cell BK407.out 0).trans rfl, (blk_cell BK407.out 1).trans rfl, (blk_cell BK407.out 2).trans rfl, (blk_cell BK407.out 3).trans rfl, (blk_cell BK416.out 0).trans rfl, (blk_cell BK416.out 1).trans rfl, (blk_cell BK416.out 2).trans rfl, (blk_cell BK416.out 3).trans rfl⟩ (fun hHeld => ?_); refine with_tabW phalaroperef08_Compare.tab3 phalaroperef08_Compare.bits3 (fun HT_ HW_ => ?_)
        generalize w39.drew = w40 at HO403 HO406 HO412 HO415 BK397 BK398 BK407 BK416 HB hHeld ⊢
        refine pure_ (i := 0) (N := some 11) (v := ?_) (a' := ?_) #[true, false, false, false, false, false, false, false, false, false, false, false, false, false, false, false, false, false, false] rfl rfl (any_of HT_.out (by kernel_rfl)) (fun _ _ _ h => h) (Or.inl ⟨by rfl, ?_⟩) ?_ ?_
        rotate_left
        · intro w'
          go_simp
          with_reducible rfl
        rotate_left
        · simp only [Act.put, List.setIfInBounds_toArray, List.set_cons_zero, List.set_cons_succ, i64_w, i32_w]
          rfl
        refine pure_ (i := 2) (N := some 13) (v := ?_) (a' := ?_) #[true, false, true, false, false, false, false, false, false, false, false, false, false, false, false, false, false, false, false] rfl rfl (any_of HT_.out (by kernel_rfl)) (fun _ _ _ h => h) (Or.inl ⟨by rfl, ?_⟩) ?_ ?_
        rotate_left
        · intro w'
          go_simp
          with_reducible rfl
        rotate_left
        · simp only [Act.put, List.setIfInBounds_toArray, List.set_cons_zero, List.set_cons_succ, i64_w, i32_w]
          rfl
        refine take_ (i := 1) (N := some 12) (v := ?_) (a' := ?_) #[true, true, true, false, false, false, false, false, false, false, false, false, false, false, false, false, false, false, false] rfl rfl (take_ofW HT_.out HW_.out (by kernel_rfl)) (fun _ _ _ h => h) (Or.inl ⟨by rfl, ?_⟩) hHeld ?_ ?_
        rotate_left
        · rintro w' ⟨s0, s1, s2, s3, s4, s5, s6, s7⟩
          go_simp
          with_reducible rfl
        rotate_left
        · simp only [Act.put, List.setIfInBounds_toArray, List.set_cons_zero, List.set_cons_succ, i64_w, i32_w]
          rfl
        refine take_ (i := 3) (N := some 14) (v := ?_) (a' := ?_) #[true, true, true, true, false, false, false, false, false, false, false, false, false, false, false, false, false, false, false] rfl rfl (take_ofW HT_.out HW_.out (by kernel_rfl)) (fun _ _ _ h => h) (Or.inl ⟨by rfl, ?_⟩) hHeld ?_ ?_
        rotate_left
        · rintro w' ⟨s0, s1, s2, s3, s4, s5, s6, s7⟩
          go_simp
          with_reducible rfl
        rotate_left
        · simp only [Act.put, List.setIfInBounds_toArray, List.set_cons_zero, List.set_cons_succ, i64_w, i32_w]
          rfl
        refine pure_ (i := 4) (N := some 15) (v := ?_) (a' := ?_) #[true, true, true, true, true, false, false, false, false, false, false, false, false, false, false, false, false, false, false] rfl rfl (any_of HT_.out (by kernel_rfl)) (fun _ _ _ h => h) (Or.inl ⟨by rfl, ?_⟩) ?_ ?_
        rotate_left
        · intro w'
          go_simp
          with_reducible rfl
        rotate_left
        · simp only [Act.put, List.setIfInBounds_toArray, List.set_cons_zero, List.set_cons_succ, i64_w, i32_w]
          rfl
        refine pure_ (i := 5) (N := some 16) (v := ?_) (a' := ?_) #[true, true, true, true, true, true, false, false, false, false, false, false, false, false, false, false, false, false, false] rfl rfl (any_of HT_.out (by kernel_rfl)) (fun _ _ _ h => h) (Or.inl ⟨by rfl, ?_⟩) ?_ ?_
        rotate_left
        · intro w'
          go_simp
          with_reducible rfl
        rotate_left
        · simp only [Act.put, List.setIfInBounds_toArray, List.set_cons_zero, List.set_cons_succ, i64_w, i32_w]
          rfl
        refine pure_ (i := 6) (N := some 17) (v := ?_) (a' := ?_) #[true, true, true, true, true, true, true, false, false, false, false, false, false, false, false, false, false, false, false] rfl rfl (any_of HT_.out (by kernel_rfl)) (fun _ _ _ h => h) (Or.inl ⟨by rfl, ?_⟩) ?_ ?_
        rotate_left
        · intro w'
          go_simp
          with_reducible rfl
        rotate_left
        · simp only [Act.put, List.setIfInBounds_toArray, List.set_cons_zero, List.set_cons_succ, i64_w, i32_w]
          rfl
        refine pure_ (i := 8) (N := some 19) (v := ?_) (a' := ?_) #[true, true, true, true, true, true, true, false, true, false, false, false, false, false, false, false, false, false, false] rfl rfl (any_of HT_.out (by kernel_rfl)) (fun _ _ _ h => h) (Or.inl ⟨by rfl, ?_⟩) ?_ ?_
        rotate_left
        · intro w'
          go_simp
          with_reducible rfl
        rotate_left
        · simp only [Act.put, List.setIfInBounds_toArray, List.set_cons_zero, List.set_cons_succ, i64_w, i32_w]
          rfl
        refine take_ (i := 7) (N := some 18) (v := ?_) (a' := ?_) #[true, true, true, true, true, true, true, true, true, false, false, false, false, false, false, false, false, false, false] rfl rfl (take_ofW HT_.out HW_.out (by kernel_rfl)) (fun _ _ _ h => h) (Or.inl ⟨by rfl, ?_⟩) hHeld ?_ ?_
        rotate_left
        · rintro w' ⟨s0, s1, s2, s3, s4, s5, s6, s7⟩
          go_simp
          with_reducible rfl
        rotate_left
        · simp only [Act.put, List.setIfInBounds_toArray, List.set_cons_zero, List.set_cons_succ, i64_w, i32_w]
          rfl
        refine take_ (i := 9) (N := some 20) (v := ?_) (a' := ?_) #[true, true, true, true, true, true, true, true, true, true, false, false, false, false, false, false, false, false, false] rfl rfl (take_ofW HT_.out HW_.out (by kernel_rfl)) (fun _ _ _ h => h) (Or.inl ⟨by rfl, ?_⟩) hHeld ?_ ?_
        rotate_left
        · rintro w' ⟨s0, s1, s2, s3, s4, s5, s6, s7⟩
          go_simp
          with_reducible rfl
        rotate_left
        · simp only [Act.put, List.setIfInBounds_toArray, List.set_cons_zero, List.set_cons_succ, i64_w, i32_w]
          rfl
        refine pure_ (i := 10) (N := some 21) (v := ?_) (a' := ?_) #[true, true, true, true, true, true, true, true, true, true, true, false, false, false, false, false, false, false, false] rfl rfl (any_of HT_.out (by kernel_rfl)) (fun _ _ _ h => h) (Or.inl ⟨by rfl, ?_⟩) ?_ ?_
        rotate_left
        · intro w'
          go_simp
          with_reducible rfl
        rotate_left
        · simp only [Act.put, List.setIfInBounds_toArray, List.set_cons_zero, List.set_cons_succ, i64_w, i32_w]
          rfl
        refine pure_ (i := 11) (N := some 22) (v := ?_) (a' := ?_) #[true, true, true, true, true, true, true, true, true, true, true, true, false, false, false, false, false, false, false] rfl rfl (any_of HT_.out (by kernel_rfl)) (fun _ _ _ h => h) (Or.inl ⟨by rfl, ?_⟩) ?_ ?_
        rotate_left
        · intro w'
          go_simp
          with_reducible rfl
        rotate_left
        · simp only [Act.put, List.setIfInBounds_toArray, List.set_cons_zero, List.set_cons_succ, i64_w, i32_w]
          rfl
        refine pure_ (i := 12) (N := some 23) (v := undef) (a' := ?_) #[true, true, true, true, true, true, true, true, true, true, true, true, true, false, false, false, false, false, false] rfl rfl (any_of HT_.out (by kernel_rfl)) (fun _ _ _ h => h) (Or.inr ⟨by rfl, rfl⟩) ?_ ?_
        rotate_left
        · simp only [Act.put, List.setIfInBounds_toArray, List.set_cons_zero, List.set_cons_succ, i64_w, i32_w]
          rfl
        refine pure_ (i := 13) (N := some 24) (v := undef) (a' := ?_) #[true, true, true, true, true, true, true, true, true, true, true, true, true, true, false, false, false, false, false] rfl rfl (any_of HT_.out (by kernel_rfl)) (fun _ _ _ h => h) (Or.inr ⟨by rfl, rfl⟩) ?_ ?_
        rotate_left
        · simp only [Act.put, List.setIfInBounds_toArray, List.set_cons_zero, List.set_cons_succ, i64_w, i32_w]
          rfl
        refine pure_ (i := 14) (N := some 25) (v := undef) (a' := ?_) #[true, true, true, true, true, true, true, true, true, true, true, true, true, true, true, false, false, false, false] rfl rfl (any_of HT_.out (by kernel_rfl)) (fun _ _ _ h => h) (Or.inr ⟨by rfl, rfl⟩) ?_ ?_
        rotate_left
        · simp only [Act.put, List.setIfInBounds_toArray, List.set_cons_zero, List.set_cons_succ, i64_w, i32_w]
          rfl
        refine pure_ (i := 15) (N := some 26) (v := undef) (a' := ?_) #[true, true, true, true, true, true, true, true, true, true, true, true, true, true, true, true, false, false, false] rfl rfl (any_of HT_.out (by kernel_rfl)) (fun _ _ _ h => h) (Or.inr ⟨by rfl, rfl⟩) ?_ ?_
        rotate_left
        · simp only [Act.put, List.setIfInBounds_toArray, List.set_cons_zero, List.set_cons_succ, i64_w, i32_w]
          rfl
        refine pure_ (i := 16) (N := some 27) (v := undef) (a' := ?_) #[true, true, true, true, true, true, true, true, true, true, true, true, true, true, true, true, true, false, false] rfl rfl (any_of HT_.out (by kernel_rfl)) (fun _ _ _ h => h) (Or.inr ⟨by rfl, rfl⟩) ?_ ?_
        rotate_left
        · simp only [Act.put, List.setIfInBounds_toArray, List.set_cons_zero, List.set_cons_succ, i64_w, i32_w]
          rfl
        refine pure_ (i := 17) (N := some 28) (v := ?_) (a' := ?_) #[true, true, true, true, true, true, true, true, true, true, true, true, true, true, true, true, true, true, false] rfl rfl (any_of HT_.out (by kernel_rfl)) (fun _ _ _ h => h) (Or.inl ⟨by rfl, ?_⟩) ?_ ?_
        rotate_left
        · intro w'
          go_simp
          with_reducible rfl
        rotate_left
        · simp only [Act.put, List.setIfInBounds_toArray, List.set_cons_zero, List.set_cons_succ, i64_w, i32_w]
          rfl
        refine pure_ (i := 18) (N := some 29) (v := ?_) (a' := ?_) #[true, true, true, true, true, true, true, true, true, true, true, true, true, true, true, true, true, true, true] rfl rfl (any_of HT_.out (by kernel_rfl)) (fun _ _ _ h => h) (Or.inl ⟨by rfl, ?_⟩) ?_ ?_
        rotate_left
        · intro w'
          go_simp
          with_reducible rfl
        rotate_left
        · simp only [Act.put, List.setIfInBounds_toArray, List.set_cons_zero, List.set_cons_succ, i64_w, i32_w]
          rfl
        refine done_ (done_of HT_.out (by kernel_rfl)) ?_
        try go_wp2
        go_meet
        case rel => exact ⟨_, (false), (by first | rfl | (simp; done) | (simp [*]; done)), H', ⟨by first | omega | exact Nat.le_refl _⟩, ⟨by (with_reducible repeat (first | apply Kd.R_alloc | apply Kd.R_drewN | apply Kd.R_drew)); exact HO403.out⟩, ⟨by (with_reducible repeat (first | apply Kd.R_alloc | apply Kd.R_drewN | apply Kd.R_drew)); exact HO406.out⟩, ⟨by (with_reducible repeat (first | apply Kd.R_alloc | apply Kd.R_drewN | apply Kd.R_drew)); exact HO412.out⟩, ⟨by (with_reducible repeat (first | apply Kd.R_alloc | apply Kd.R_drewN | apply Kd.R_drew)); exact HO415.out⟩, ⟨by (with_reducible repeat (first | refine blk_drewN ?_ _ | refine blk_drew ?_ | refine blk_alloc ?_ _)); exact BK397.out⟩, ⟨by (with_reducible repeat (first | refine blk_drewN ?_ _ | refine blk_drew ?_ | refine blk_alloc ?_ _)); exact BK398.out⟩, ⟨by (with_reducible repeat (first | refine blk_drewN ?_ _ | refine blk_drew ?_ | refine blk_alloc ?_ _)); exact BK407.out⟩, ⟨by (with_reducible repeat (first | refine blk_drewN ?_ _ | refine blk_drew ?_ | refine blk_alloc ?_ _)); exact BK416.out⟩, ⟨by repeat (first | (with_reducible first | exact HB.out | apply below_alloc | apply pw_below_drewN | apply below_drew1 | refine below_set ?_ GE397.out | refine below_set ?_ GE398.out | refine below_set ?_ GE407.out | refine below_set ?_ GE416.out) | exact HB.out)⟩⟩
  case rest =>
    clear HC5
    try clear c1
    try clear c2
    try clear p2
    try clear c5
    try clear c7
    try clear c26
    try clear c26b0
    try clear c29
    try clear c29b0
    try clear c29b1
    obtain ⟨kq, x29_4, rfl, HA, HJ4, HO_408002, HO_408003, HO_417002, HO_417003, BK397, BK398, BK407, BK416, HB⟩ := hcut
    cases kq with
    | zero => exact absurd HA.out (by simp [phalaroperef08_Compare.j0])
    | succ kj4 =>
      have H := HA.out
      clear HA
      simp only [phalaroperef08_Compare.j0] at H
      by_cases c41 : x29_4 = true
      · subst c41
        have H1 : (some (-1)) = some r := by rw [if_pos rfl] at H; exact H
        clear H
        have H := H1
        clear H1
        obtain rfl := Option.some.inj H
        go_wp2
        go_ret
        exact ⟨by first | rfl | (simp [errW_none, errW_some] <;> rfl) | (simp [*, errW_none, errW_some] <;> rfl), by repeat (first | (with_reducible first | exact HB.out | apply below_alloc | apply pw_below_drewN | apply below_drew1 | refine below_set ?_ GE397.out | refine below_set ?_ GE398.out | refine below_set ?_ GE407.out | refine below_set ?_ GE416.out) | exact HB.out)⟩
      · replace c41 := Bool.eq_false_iff.mpr c41
        subst c41
        have H1 : ((phalaroperef08_Same.f kj4 a0_0 a0_1 l0_2 l0_3 a1_0 a1_1 l1_2 l1_3).bind fun t424 => (if t424 = true then (some 0) else (some 1))) = some r := by rw [if_neg (show ¬ (false = true) by decide)] at H; exact H
        clear H
        have H := H1
        clear H1
        replace H := Option.bind_eq_some_iff.mp H
        obtain ⟨t424, A420, H⟩ := H
        replace H : (if t424 = true then (some 0) else (some 1)) = some r := H
        have A42 := Aside0.mk A420
        clear A420
        by_cases c43 : t424 = true
        · subst c43
          have H1 : (some 0) = some r := by rw [if_pos rfl] at H; exact H
          clear H
          have H := H1
          clear H1
          obtain rfl := Option.some.inj H
          have hnb44 := NB397_398.out
          have hnc44 := NB398_397.out
          have hnb45 := NB397_407.out
          have hnc45 := NB407_397.out
          have hnb46 := NB397_416.out
          have hnc46 := NB416_397.out
          have hcz47_0 : wc.cell? ⟨gb397, 0, none⟩ = some (.int .i64 a0_0) := (blk_cell BK397.out 0).trans rfl
          have hcz47_1 : wc.cell? ⟨gb397, 1, none⟩ = some (.string a0_1) := (blk_cell BK397.out 1).trans rfl
          have hcz47_2 : wc.cell? ⟨gb397, 2, none⟩ = some (.slice A0_2 l0_2.length c0_2) := (blk_cell BK397.out 2).trans rfl
          have hcz47_3 : wc.cell? ⟨gb397, 3, none⟩ = some (.slice A0_3 l0_3.length c0_3) := (blk_cell BK397.out 3).trans rfl
          have hfz47_0 := blk_frozen BK397.out 0
          have hfz47_1 := blk_frozen BK397.out 1
          have hfz47_2 := blk_frozen BK397.out 2
          have hfz47_3 := blk_frozen BK397.out 3
          have hnb48 := NB398_407.out
          have hnc48 := NB407_398.out
          have hnb49 := NB398_416.out
          have hnc49 := NB416_398.out
          have hcz50_0 : wc.cell? ⟨gb398, 0, none⟩ = some (.int .i64 a1_0) := (blk_cell BK398.out 0).trans rfl
          have hcz50_1 : wc.cell? ⟨gb398, 1, none⟩ = some (.string a1_1) := (blk_cell BK398.out 1).trans rfl
          have hcz50_2 : wc.cell? ⟨gb398, 2, none⟩ = some (.slice A1_2 l1_2.length c1_2) := (blk_cell BK398.out 2).trans rfl
          have hcz50_3 : wc.cell? ⟨gb398, 3, none⟩ = some (.slice A1_3 l1_3.length c1_3) := (blk_cell BK398.out 3).trans rfl
          have hfz50_0 := blk_frozen BK398.out 0
          have hfz50_1 := blk_frozen BK398.out 1
          have hfz50_2 := blk_frozen BK398.out 2
          have hfz50_3 := blk_frozen BK398.out 3
          go_wp2_with (first | ((with_reducible refine gate_callee (f := 59) rfl ?_); refine goesL_ (some 32) rfl rfl Try.func59 (by kernel_rfl) rfl #[.agg #[.int .i64 a0_0, .string a0_1, .slice A0_2 l0_2.length c0_2, .slice A0_3 l0_3.length c0_3], .agg #[.int .i64 a1_0, .string a1_1, .slice A1_2 l1_2.length c1_2, .slice A1_3 l1_3.length c1_3]] rfl (by (try simp only [List.map_toArray, List.map_cons, List.map_nil]); first | done | rfl | (simp only [List.length_drop, List.length_take]; rfl)) ?_; (with_reducible refine (phalaroperef08_Same.calls kj4 a0_0 a0_1 _ _ l0_2 _ _ l0_3 a1_0 a1_1 _ _ l1_2 _ _ l1_3 true _ ?side1 ?side2 ?side3 ?side4 ?side5 ?side6 ?side7 ?side8 A42.out).mono ?_); (case side1 => repeat (first | exact (Kd.C_below HR0_2.out HB.out) | (with_reducible refine Kd.C_alloc ?_ _) | (with_reducible refine Kd.C_drewN ?_ _) | (with_reducible refine Kd.C_drew ?_))); (case side2 => exact HC0_2.out); (case side3 => repeat (first | exact (Kd.C_below HR0_3.out HB.out) | (with_reducible refine Kd.C_alloc ?_ _) | (with_reducible refine Kd.C_drewN ?_ _) | (with_reducible refine Kd.C_drew ?_))); (case side4 => exact HC0_3.out); (case side5 => repeat (first | exact (Kd.C_below HR1_2.out HB.out) | (with_reducible refine Kd.C_alloc ?_ _) | (with_reducible refine Kd.C_drewN ?_ _) | (with_reducible refine Kd.C_drew ?_))); (case side6 => exact HC1_2.out); (case side7 => repeat (first | exact (Kd.C_below HR1_3.out HB.out) | (with_reducible refine Kd.C_alloc ?_ _) | (with_reducible refine Kd.C_drewN ?_ _) | (with_reducible refine Kd.C_drew ?_))); (case side8 => exact HC1_3.out); rintro e w51 ⟨rfl, hb⟩; refine ⟨_, rfl, ?_⟩; have n0_ := Aside0.mk (Kd.R_below (by (with_reducible repeat (first | apply Kd.R_alloc | apply Kd.R_drewN | apply Kd.R_drew)); exact HO_408002.out) hb); have n1_ := Aside0.mk (Kd.R_below (by (with_reducible repeat (first | apply Kd.R_alloc | apply Kd.R_drewN | apply Kd.R_drew)); exact HO_408003.out) hb); have n2_ := Aside0.mk (Kd.R_below (by (with_reducible repeat (first | apply Kd.R_alloc | apply Kd.R_drewN | apply Kd.R_drew)); exact HO_417002.out) hb); have n3_ := Aside0.mk (Kd.R_below (by (with_reducible repeat (first | apply Kd.R_alloc | apply Kd.R_drewN | apply Kd.R_drew)); exact HO_417003.out) hb); have n4_ := Aside0.mk (blk_below (g := gb397) (o := .cells #[.int .i64 a0_0, .string a0_1, .slice A0_2 l0_2.length c0_2, .slice A0_3 l0_3.length c0_3] 52 (0, 0)) (by (with_reducible repeat (first | refine blk_drewN ?_ _ | refine blk_drew ?_ | refine blk_alloc ?_ _)); exact BK397.out) hb); have n5_ := Aside0.mk (blk_below (g := gb398) (o := .cells #[.int .i64 a1_0, .string a1_1, .slice A1_2 l1_2.length c1_2, .slice A1_3 l1_3.length c1_3] 52 (0, 0)) (by (with_reducible repeat (first | refine blk_drewN ?_ _ | refine blk_drew ?_ | refine blk_alloc ?_ _)); exact BK398.out) hb); have n6_ := Aside0.mk (blk_below (g := gb407) (o := .cells #[.int .i64 t399, .string t400, .slice Ao15 t401.length co15, .slice Ao16 t404.length co16] 52 (0, 0)) (by (with_reducible repeat (first | refine blk_drewN ?_ _ | refine blk_drew ?_ | refine blk_alloc ?_ _)); exact BK407.out) hb); have n7_ := Aside0.mk (blk_below (g := gb416) (o := .cells #[.int .i64 t408, .string t409, .slice Ao24 t410.length co24, .slice Ao25 t413.length co25] 52 (0, 0)) (by (with_reducible repeat (first | refine blk_drewN ?_ _ | refine blk_drew ?_ | refine blk_alloc ?_ _)); exact BK416.out) hb); have n8_ := Aside0.mk (below_step (by repeat (first | (with_reducible first | exact HB.out | apply below_alloc | apply pw_below_drewN | apply below_drew1 | refine below_set ?_ GE397.out | refine below_set ?_ GE398.out | refine below_set ?_ GE407.out | refine below_set ?_ GE416.out) | exact HB.out)) hb); clear HO_408002; clear HO_408003; clear HO_417002; clear HO_417003; clear BK397; clear BK398; clear BK407; clear BK416; clear HB; have HO_408002 := n0_; have HO_408003 := n1_; have HO_417002 := n2_; have HO_417003 := n3_; have BK397 := n4_; have BK398 := n5_; have BK407 := n6_; have BK416 := n7_; have HB := n8_; clear n0_ n1_ n2_ n3_ n4_ n5_ n6_ n7_ n8_; (try clear hb); (try clear hb2); (try clear hk); (try clear hi)))
          go_ret
          exact ⟨by first | rfl | (simp [errW_none, errW_some] <;> rfl) | (simp [*, errW_none, errW_some] <;> rfl), by repeat (first | (with_reducible first | exact HB.out | apply below_alloc | apply pw_below_drewN | apply below_drew1 | refine below_set ?_ GE397.out | refine below_set ?_ GE398.out | refine below_set ?_ GE407.out | refine below_set ?_ GE416.out) | exact HB.out)⟩
        · replace c43 := Bool.eq_false_iff.mpr c43
          subst c43
          have H1 : (some 1) = some r := by rw [if_neg (show ¬ (false = true) by decide)] at H; exact H
          clear H
          have H := H1
          clear H1
          obtain rfl := Option.some.inj H
          have hnb52 := NB397_398.out
          have hnc52 := NB398_397.out
          have hnb53 := NB397_407.out
          have hnc53 := NB407_397.out
          have hnb54 := NB397_416.out
          have hnc54 := NB416_397.out
          have hcz55_0 : wc.cell? ⟨gb397, 0, none⟩ = some (.int .i64 a0_0) := (blk_cell BK397.out 0).trans rfl
          have hcz55_1 : wc.cell? ⟨gb397, 1, none⟩ = some (.string a0_1) := (blk_cell BK397.out 1).trans rfl
          have hcz55_2 : wc.cell? ⟨gb397, 2, none⟩ = some (.slice A0_2 l0_2.length c0_2) := (blk_cell BK397.out 2).trans rfl
          have hcz55_3 : wc.cell? ⟨gb397, 3, none⟩ = some (.slice A0_3 l0_3.length c0_3) := (blk_cell BK397.out 3).trans rfl
          have hfz55_0 := blk_frozen BK397.out 0
          have hfz55_1 := blk_frozen BK397.out 1
          have hfz55_2 := blk_frozen BK397.out 2
          have hfz55_3 := blk_frozen BK397.out 3
          have hnb56 := NB398_407.out
          have hnc56 := NB407_398.out
          have hnb57 := NB398_416.out
          have hnc57 := NB416_398.out
          have hcz58_0 : wc.cell? ⟨gb398, 0, none⟩ = some (.int .i64 a1_0) := (blk_cell BK398.out 0).trans rfl
          have hcz58_1 : wc.cell? ⟨gb398, 1, none⟩ = some (.string a1_1) := (blk_cell BK398.out 1).trans rfl
          have hcz58_2 : wc.cell? ⟨gb398, 2, none⟩ = some (.slice A1_2 l1_2.length c1_2) := (blk_cell BK398.out 2).trans rfl
          have hcz58_3 : wc.cell? ⟨gb398, 3, none⟩ = some (.slice A1_3 l1_3.length c1_3) := (blk_cell BK398.out 3).trans rfl
          have hfz58_0 := blk_frozen BK398.out 0
          have hfz58_1 := blk_frozen BK398.out 1
          have hfz58_2 := blk_frozen BK398.out 2
          have hfz58_3 := blk_frozen BK398.out 3
          go_wp2_with (first | ((with_reducible refine gate_callee (f := 59) rfl ?_); refine goesL_ (some 32) rfl rfl Try.func59 (by kernel_rfl) rfl #[.agg #[.int .i64 a0_0, .string a0_1, .slice A0_2 l0_2.length c0_2, .slice A0_3 l0_3.length c0_3], .agg #[.int .i64 a1_0, .string a1_1, .slice A1_2 l1_2.length c1_2, .slice A1_3 l1_3.length c1_3]] rfl (by (try simp only [List.map_toArray, List.map_cons, List.map_nil]); first | done | rfl | (simp only [List.length_drop, List.length_take]; rfl)) ?_; (with_reducible refine (phalaroperef08_Same.calls kj4 a0_0 a0_1 _ _ l0_2 _ _ l0_3 a1_0 a1_1 _ _ l1_2 _ _ l1_3 false _ ?side1 ?side2 ?side3 ?side4 ?side5 ?side6 ?side7 ?side8 A42.out).mono ?_); (case side1 => repeat (first | exact (Kd.C_below HR0_2.out HB.out) | (with_reducible refine Kd.C_alloc ?_ _) | (with_reducible refine Kd.C_drewN ?_ _) | (with_reducible refine Kd.C_drew ?_))); (case side2 => exact HC0_2.out); (case side3 => repeat (first | exact (Kd.C_below HR0_3.out HB.out) | (with_reducible refine Kd.C_alloc ?_ _) | (with_reducible refine Kd.C_drewN ?_ _) | (with_reducible refine Kd.C_drew ?_))); (case side4 => exact HC0_3.out); (case side5 => repeat (first | exact (Kd.C_below HR1_2.out HB.out) | (with_reducible refine Kd.C_alloc ?_ _) | (with_reducible refine Kd.C_drewN ?_ _) | (with_reducible refine Kd.C_drew ?_))); (case side6 => exact HC1_2.out); (case side7 => repeat (first | exact (Kd.C_below HR1_3.out HB.out) | (with_reducible refine Kd.C_alloc ?_ _) | (with_reducible refine Kd.C_drewN ?_ _) | (with_reducible refine Kd.C_drew ?_))); (case side8 => exact HC1_3.out); rintro e w59 ⟨rfl, hb⟩; refine ⟨_, rfl, ?_⟩; have n0_ := Aside0.mk (Kd.R_below (by (with_reducible repeat (first | apply Kd.R_alloc | apply Kd.R_drewN | apply Kd.R_drew)); exact HO_408002.out) hb); have n1_ := Aside0.mk (Kd.R_below (by (with_reducible repeat (first | apply Kd.R_alloc | apply Kd.R_drewN | apply Kd.R_drew)); exact HO_408003.out) hb); have n2_ := Aside0.mk (Kd.R_below (by (with_reducible repeat (first | apply Kd.R_alloc | apply Kd.R_drewN | apply Kd.R_drew)); exact HO_417002.out) hb); have n3_ := Aside0.mk (Kd.R_below (by (with_reducible repeat (first | apply Kd.R_alloc | apply Kd.R_drewN | apply Kd.R_drew)); exact HO_417003.out) hb); have n4_ := Aside0.mk (blk_below (g := gb397) (o := .cells #[.int .i64 a0_0, .string a0_1, .slice A0_2 l0_2.length c0_2, .slice A0_3 l0_3.length c0_3] 52 (0, 0)) (by (with_reducible repeat (first | refine blk_drewN ?_ _ | refine blk_drew ?_ | refine blk_alloc ?_ _)); exact BK397.out) hb); have n5_ := Aside0.mk (blk_below (g := gb398) (o := .cells #[.int .i64 a1_0, .string a1_1, .slice A1_2 l1_2.length c1_2, .slice A1_3 l1_3.length c1_3] 52 (0, 0)) (by (with_reducible repeat (first | refine blk_drewN ?_ _ | refine blk_drew ?_ | refine blk_alloc ?_ _)); exact BK398.out) hb); have n6_ := Aside0.mk (blk_below (g := gb407) (o := .cells #[.int .i64 t399, .string t400, .slice Ao15 t401.length co15, .slice Ao16 t404.length co16] 52 (0, 0)) (by (with_reducible repeat (first | refine blk_drewN ?_ _ | refine blk_drew ?_ | refine blk_alloc ?_ _)); exact BK407.out) hb); have n7_ := Aside0.mk (blk_below (g := gb416) (o := .cells #[.int .i64 t408, .string t409, .slice Ao24 t410.length co24, .slice Ao25 t413.length co25] 52 (0, 0)) (by (with_reducible repeat (first | refine blk_drewN ?_ _ | refine blk_drew ?_ | refine blk_alloc ?_ _)); exact BK416.out) hb); have n8_ := Aside0.mk (below_step (by repeat (first | (with_reducible first | exact HB.out | apply below_alloc | apply pw_below_drewN | apply below_drew1 | refine below_set ?_ GE397.out | refine below_set ?_ GE398.out | refine below_set ?_ GE407.out | refine below_set ?_ GE416.out) | exact HB.out)) hb); clear HO_408002; clear HO_408003; clear HO_417002; clear HO_417003; clear BK397; clear BK398; clear BK407; clear BK416; clear HB; have HO_408002 := n0_; have HO_408003 := n1_; have HO_417002 := n2_; have HO_417003 := n3_; have BK397 := n4_; have BK398 := n5_; have BK407 := n6_; have BK416 := n7_; have HB := n8_; clear n0_ n1_ n2_ n3_ n4_ n5_ n6_ n7_ n8_; (try clear hb); (try clear hb2); (try clear hk); (try clear hi)))
          go_ret
          exact ⟨by first | rfl | (simp [errW_none, errW_some] <;> rfl) | (simp [*, errW_none, errW_some] <;> rfl), by repeat (first | (with_reducible first | exact HB.out | apply below_alloc | apply pw_below_drewN | apply below_drew1 | refine below_set ?_ GE397.out | refine below_set ?_ GE398.out | refine below_set ?_ GE407.out | refine below_set ?_ GE416.out) | exact HB.out)⟩

end Go.Proofs.Ytjjmfmlgemdjkaa.PVal

