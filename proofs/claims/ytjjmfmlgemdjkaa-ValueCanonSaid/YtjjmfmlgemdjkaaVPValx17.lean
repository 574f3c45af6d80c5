/- What the kit's print.py wrote of this seat's functions (PValx17); what the proofs here need. -/
import Derived.Test.YtjjmfmlgemdjkaaVPValx0
import Derived.Test.YtjjmfmlgemdjkaaVPValx2
import Derived.Test.YtjjmfmlgemdjkaaVPValx4
import Derived.Test.YtjjmfmlgemdjkaaVPValx6
import Derived.Test.YtjjmfmlgemdjkaaVPValx7
import Derived.Test.YtjjmfmlgemdjkaaVPValx11
namespace Go.Proofs.Ytjjmfmlgemdjkaa.PVal
open Go.RowKit Go.Proofs.YtjjmfmlgemdjkaaW.PrintWords Go.Proofs.YtjjmfmlgemdjkaaW.PrintLast Go.Proofs.YtjjmfmlgemdjkaaW.PrintMore
attribute [local go_sem] max2_int min2_int max_two min_two max_three min_three max_four min_four   -- for this text's walks alone
set_option linter.unusedVariables false
set_option linter.unusedSimpArgs false

def phalaropelaw08_ValueCanon.f (k : Nat) (a0_0 : Int) (a0_1 : ByteArray) (l0_2 : List ByteArray) (l0_3 : List (S76)) : Option (Bool) := (phalaropelaw08_awake.f k).bind fun t462 => ((phalaroperef08_Few.f k a0_0 a0_1 l0_2 l0_3).bind fun t463 => (if t463 = true then ((value_Canon.f k a0_0 a0_1 l0_2 l0_3).bind fun bt464 => ((value_Texts.f k a0_0 a0_1 l0_2 l0_3).bind fun t473 => ((value_Of.f a0_0 t473).bind fun bt476 => (if t462 = true then ((value_Canon.f k bt464.1 bt464.2.1 bt464.2.2.1 bt464.2.2.2).bind fun bt486 => ((phalaroperef08_Very.f k bt486.1 bt486.2.1 bt486.2.2.1 bt486.2.2.2 bt464.1 bt464.2.1 bt464.2.2.1 bt464.2.2.2).bind fun t494 => (if t494 = true then ((value_Same.f k a0_0 a0_1 l0_2 l0_3 bt464.1 bt464.2.1 bt464.2.2.1 bt464.2.2.2).bind fun t495 => (if t495 = true then ((value_Defined.f k a0_0 a0_1 l0_2 l0_3).bind fun t496 => (if (bt476.2.2.2.2 == t496) = true then ((phalaroperef08_Very.f k bt476.1 bt476.2.1 bt476.2.2.1 bt476.2.2.2.1 bt464.1 bt464.2.1 bt464.2.2.1 bt464.2.2.2).bind fun t497 => (if t497 = true then ((value_Defined.f k bt464.1 bt464.2.1 bt464.2.2.1 bt464.2.2.2).bind fun t498 => ((value_Defined.f k a0_0 a0_1 l0_2 l0_3).bind fun t499 => (if (t498 == t499) = true then ((value_Valid.f bt464.1 bt464.2.1 bt464.2.2.1 bt464.2.2.2).bind fun t500 => ((value_Valid.f a0_0 a0_1 l0_2 l0_3).bind fun t501 => (some (t500 == t501)))) else (some false)))) else (some false))) else (some false))) else (some false))) else (some false)))) else (some false))))) else (some t462)))
def phalaropelaw08_ValueCanon.T5 : Bool × List (List Nat × List Nat) := (true, [([], []), ([0], [0]), ([], []), ([2], [2]), ([1, 3, 3], [1, 3]), ([4], [4]), ([5], [5]), ([5], [5]), ([], []), ([8, 6, 4, 0, 1, 2, 3, 4, 5, 6, 8], [6, 8]), ([7, 9, 0, 1, 2, 3, 4, 5, 6, 7, 8, 9], [7])])
def phalaropelaw08_ValueCanon.B5 : List Nat := [0, 1, 0, 4, 15, 31, 63, 63, 0, 383, 1023]
theorem phalaropelaw08_ValueCanon.tab5 : rtab .any (opsOf Try.f19 5) = phalaropelaw08_ValueCanon.T5 := by kernel_rfl
theorem phalaropelaw08_ValueCanon.bits5 : waitsOk phalaropelaw08_ValueCanon.T5.2 phalaropelaw08_ValueCanon.B5 = true := by kernel_rfl
def phalaropelaw08_ValueCanon.T6 : Bool × List (List Nat × List Nat) := (true, [([], []), ([0], [0]), ([1], [1]), ([2, 1, 1], [1, 2]), ([1], [1]), ([3, 4, 3, 1], [1, 3, 4]), ([1, 5], [1, 5]), ([6, 5], [6]), ([7], [7]), ([7], [7]), ([8, 9, 7, 7], [7, 8, 9]), ([7, 10], [7, 10]), ([11, 10], [11]), ([12], [12]), ([12], [12]), ([14, 12, 12], [12, 14]), ([13, 15, 12], [12, 13, 15]), ([12, 16], [12, 16]), ([17, 15], [17]), ([18], [18]), ([18], [18]), ([19, 20, 18, 18], [18, 19, 20]), ([18, 21], [18, 21]), ([22, 21], [22]), ([23], [23]), ([24, 23, 23], [23, 24]), ([23], [23]), ([26, 25, 23], [23, 26]), ([25, 27, 23], [23, 25, 27]), ([23, 28], [23, 28]), ([29, 27], [29]), ([30], [30]), ([31, 30, 30], [30, 31]), ([30], [30]), ([33, 32, 30], [30, 33]), ([32, 34, 30], [30, 32, 34]), ([30, 35], [30, 35]), ([36, 34, 0, 1, 2, 3, 4, 5, 6, 7, 8, 9, 10, 11, 12, 13, 14, 15, 16, 17, 18, 19, 20, 21, 22, 23, 24, 25, 26, 27, 28, 29, 30, 31, 32, 33, 34, 35, 36], [36])])
def phalaropelaw08_ValueCanon.B6 : List Nat := [0, 1, 3, 7, 3, 31, 63, 127, 255, 255, 1023, 2047, 4095, 8191, 8191, 24575, 65535, 131071, 262143, 524287, 524287, 2097151, 4194303, 8388607, 16777215, 33554431, 16777215, 134217727, 268435455, 536870911, 1073741823, 2147483647, 4294967295, 2147483647, 17179869183, 34359738367, 68719476735, 137438953471]
theorem phalaropelaw08_ValueCanon.tab6 : rtab .any (opsOf Try.f19 6) = phalaropelaw08_ValueCanon.T6 := by kernel_rfl
theorem phalaropelaw08_ValueCanon.bits6 : waitsOk phalaropelaw08_ValueCanon.T6.2 phalaropelaw08_ValueCanon.B6 = true := by kernel_rfl
set_option maxHeartbeats 8000000 in
set_option maxRecDepth 100000 in
theorem phalaropelaw08_ValueCanon.calls (k : Nat) (a0_0 : Int) (a0_1 : ByteArray) (A0_2 : Option Addr) (c0_2 : Nat) (l0_2 : List ByteArray) (A0_3 : Option Addr) (c0_3 : Nat) (l0_3 : List (S76)) (r : Bool) (w : World) (hr0_2 : Kd.C Kd.string w A0_2 l0_2.length l0_2) (hc0_2 : l0_2.length ≤ c0_2) (hr0_3 : Kd.C k76 w A0_3 l0_3.length l0_3) (hc0_3 : l0_3.length ≤ c0_3) (h : phalaropelaw08_ValueCanon.f k a0_0 a0_1 l0_2 l0_3 = some r) (hrt : r = true) :
    Calls Try.prog 19 #[.agg #[.int .i64 a0_0, .string a0_1, .slice A0_2 l0_2.length c0_2, .slice A0_3 l0_3.length c0_3]] w fun e w' => e = .returned (.bool r) ∧ Below w.heap.size w w' := by
  have HRT := Aside0.mk hrt
  clear hrt
  have hu52 := Try.underlying52
  have HR0_2 := Aside0.mk hr0_2
  have HC0_2 := Aside0.mk hc0_2
  clear hr0_2 hc0_2
  have HR0_3 := Aside0.mk hr0_3
  have HC0_3 := Aside0.mk hc0_3
  clear hr0_3 hc0_3
  have HB := Aside0.mk (Below.refl w.heap.size w)
  have H : ((phalaropelaw08_awake.f k).bind fun t462 => ((phalaroperef08_Few.f k a0_0 a0_1 l0_2 l0_3).bind fun t463 => (if t463 = true then ((value_Canon.f k a0_0 a0_1 l0_2 l0_3).bind fun bt464 => ((value_Texts.f k a0_0 a0_1 l0_2 l0_3).bind fun t473 => ((value_Of.f a0_0 t473).bind fun bt476 => (if t462 = true then ((value_Canon.f k bt464.1 bt464.2.1 bt464.2.2.1 bt464.2.2.2).bind fun bt486 => ((phalaroperef08_Very.f k bt486.1 bt486.2.1 bt486.2.2.1 bt486.2.2.2 bt464.1 bt464.2.1 bt464.2.2.1 bt464.2.2.2).bind fun t494 => (if t494 = true then ((value_Same.f k a0_0 a0_1 l0_2 l0_3 bt464.1 bt464.2.1 bt464.2.2.1 bt464.2.2.2).bind fun t495 => (if t495 = true then ((value_Defined.f k a0_0 a0_1 l0_2 l0_3).bind fun t496 => (if (bt476.2.2.2.2 == t496) = true then ((phalaroperef08_Very.f k bt476.1 bt476.2.1 bt476.2.2.1 bt476.2.2.2.1 bt464.1 bt464.2.1 bt464.2.2.1 bt464.2.2.2).bind fun t497 => (if t497 = true then ((value_Defined.f k bt464.1 bt464.2.1 bt464.2.2.1 bt464.2.2.2).bind fun t498 => ((value_Defined.f k a0_0 a0_1 l0_2 l0_3).bind fun t499 => (if (t498 == t499) = true then ((value_Valid.f bt464.1 bt464.2.1 bt464.2.2.1 bt464.2.2.2).bind fun t500 => ((value_Valid.f a0_0 a0_1 l0_2 l0_3).bind fun t501 => (some (t500 == t501)))) else (some false)))) else (some false))) else (some false))) else (some false))) else (some false)))) else (some false))))) else (some t462)))) = some r := h
  clear h
  replace H := Option.bind_eq_some_iff.mp H
  obtain ⟨t462, A20, H⟩ := H
  replace H : ((phalaroperef08_Few.f k a0_0 a0_1 l0_2 l0_3).bind fun t463 => (if t463 = true then ((value_Canon.f k a0_0 a0_1 l0_2 l0_3).bind fun bt464 => ((value_Texts.f k a0_0 a0_1 l0_2 l0_3).bind fun t473 => ((value_Of.f a0_0 t473).bind fun bt476 => (if t462 = true then ((value_Canon.f k bt464.1 bt464.2.1 bt464.2.2.1 bt464.2.2.2).bind fun bt486 => ((phalaroperef08_Very.f k bt486.1 bt486.2.1 bt486.2.2.1 bt486.2.2.2 bt464.1 bt464.2.1 bt464.2.2.1 bt464.2.2.2).bind fun t494 => (if t494 = true then ((value_Same.f k a0_0 a0_1 l0_2 l0_3 bt464.1 bt464.2.1 bt464.2.2.1 bt464.2.2.2).bind fun t495 => (if t495 = true then ((value_Defined.f k a0_0 a0_1 l0_2 l0_3).bind fun t496 => (if (bt476.2.2.2.2 == t496) = true then ((phalaroperef08_Very.f k bt476.1 bt476.2.1 bt476.2.2.1 bt476.2.2.2.1 bt464.1 bt464.2.1 bt464.2.2.1 bt464.2.2.2).bind fun t497 => (if t497 = true then ((value_Defined.f k bt464.1 bt464.2.1 bt464.2.2.1 bt464.2.2.2).bind fun t498 => ((value_Defined.f k a0_0 a0_1 l0_2 l0_3).bind fun t499 => (if (t498 == t499) = true then ((value_Valid.f bt464.1 bt464.2.1 bt464.2.2.1 bt464.2.2.2).bind fun t500 => ((value_Valid.f a0_0 a0_1 l0_2 l0_3).bind fun t501 => (some (t500 == t501)))) else (some false)))) else (some false))) else (some false))) else (some false))) else (some false)))) else (some false))))) else (some t462))) = some r := H
  have A2 := Aside0.mk A20
  clear A20
  replace H := Option.bind_eq_some_iff.mp H
  obtain ⟨t463, A30, H⟩ := H
  replace H : (if t463 = true then ((value_Canon.f k a0_0 a0_1 l0_2 l0_3).bind fun bt464 => ((value_Texts.f k a0_0 a0_1 l0_2 l0_3).bind fun t473 => ((value_Of.f a0_0 t473).bind fun bt476 => (if t462 = true then ((value_Canon.f k bt464.1 bt464.2.1 bt464.2.2.1 bt464.2.2.2).bind fun bt486 => ((phalaroperef08_Very.f k bt486.1 bt486.2.1 bt486.2.2.1 bt486.2.2.2 bt464.1 bt464.2.1 bt464.2.2.1 bt464.2.2.2).bind fun t494 => (if t494 = true then ((value_Same.f k a0_0 a0_1 l0_2 l0_3 bt464.1 bt464.2.1 bt464.2.2.1 bt464.2.2.2).bind fun t495 => (if t495 = true then ((value_Defined.f k a0_0 a0_1 l0_2 l0_3).bind fun t496 => (if (bt476.2.2.2.2 == t496) = true then ((phalaroperef08_Very.f k bt476.1 bt476.2.1 bt476.2.2.1 bt476.2.2.2.1 bt464.1 bt464.2.1 bt464.2.2.1 bt464.2.2.2).bind fun t497 => (if t497 = true then ((value_Defined.f k bt464.1 bt464.2.1 bt464.2.2.1 bt464.2.2.2).bind fun t498 => ((value_Defined.f k a0_0 a0_1 l0_2 l0_3).bind fun t499 => (if (t498 == t499) = true then ((value_Valid.f bt464.1 bt464.2.1 bt464.2.2.1 bt464.2.2.2).bind fun t500 => ((value_Valid.f a0_0 a0_1 l0_2 l0_3).bind fun t501 => (some (t500 == t501)))) else (some false)))) else (some false))) else (some false))) else (some false))) else (some false)))) else (some false))))) else (some t462)) = some r := H
  have A3 := Aside0.mk A30
  clear A30
  by_cases c4 : t463 = true
  · subst c4
    have H1 : ((value_Canon.f k a0_0 a0_1 l0_2 l0_3).bind fun bt464 => ((value_Texts.f k a0_0 a0_1 l0_2 l0_3).bind fun t473 => ((value_Of.f a0_0 t473).bind fun bt476 => (if t462 = true then ((value_Canon.f k bt464.1 bt464.2.1 bt464.2.2.1 bt464.2.2.2).bind fun bt486 => ((phalaroperef08_Very.f k bt486.1 bt486.2.1 bt486.2.2.1 bt486.2.2.2 bt464.1 bt464.2.1 bt464.2.2.1 bt464.2.2.2).bind fun t494 => (if t494 = true then ((value_Same.f k a0_0 a0_1 l0_2 l0_3 bt464.1 bt464.2.1 bt464.2.2.1 bt464.2.2.2).bind fun t495 => (if t495 = true then ((value_Defined.f k a0_0 a0_1 l0_2 l0_3).bind fun t496 => (if (bt476.2.2.2.2 == t496) = true then ((phalaroperef08_Very.f k bt476.1 bt476.2.1 bt476.2.2.1 bt476.2.2.2.1 bt464.1 bt464.2.1 bt464.2.2.1 bt464.2.2.2).bind fun t497 => (if t497 = true then ((value_Defined.f k bt464.1 bt464.2.1 bt464.2.2.1 bt464.2.2.2).bind fun t498 => ((value_Defined.f k a0_0 a0_1 l0_2 l0_3).bind fun t499 => (if (t498 == t499) = true then ((value_Valid.f bt464.1 bt464.2.1 bt464.2.2.1 bt464.2.2.2).bind fun t500 => ((value_Valid.f a0_0 a0_1 l0_2 l0_3).bind fun t501 => (some (t500 == t501)))) else (some false)))) else (some false))) else (some false))) else (some false))) else (some false)))) else (some false))))) = some r := by rw [if_pos rfl] at H; exact H
    clear H
    have H := H1
    clear H1
    replace H := Option.bind_eq_some_iff.mp H
    obtain ⟨⟨t464, t465, t466, t469⟩, A50, H⟩ := H
    replace H : ((value_Texts.f k a0_0 a0_1 l0_2 l0_3).bind fun t473 => ((value_Of.f a0_0 t473).bind fun bt476 => (if t462 = true then ((value_Canon.f k t464 t465 t466 t469).bind fun bt486 => ((phalaroperef08_Very.f k bt486.1 bt486.2.1 bt486.2.2.1 bt486.2.2.2 t464 t465 t466 t469).bind fun t494 => (if t494 = true then ((value_Same.f k a0_0 a0_1 l0_2 l0_3 t464 t465 t466 t469).bind fun t495 => (if t495 = true then ((value_Defined.f k a0_0 a0_1 l0_2 l0_3).bind fun t496 => (if (bt476.2.2.2.2 == t496) = true then ((phalaroperef08_Very.f k bt476.1 bt476.2.1 bt476.2.2.1 bt476.2.2.2.1 t464 t465 t466 t469).bind fun t497 => (if t497 = true then ((value_Defined.f k t464 t465 t466 t469).bind fun t498 => ((value_Defined.f k a0_0 a0_1 l0_2 l0_3).bind fun t499 => (if (t498 == t499) = true then ((value_Valid.f t464 t465 t466 t469).bind fun t500 => ((value_Valid.f a0_0 a0_1 l0_2 l0_3).bind fun t501 => (some (t500 == t501)))) else (some false)))) else (some false))) else (some false))) else (some false))) else (some false)))) else (some false)))) = some r := H
    have A5 := Aside0.mk A50
    clear A50
    replace H := Option.bind_eq_some_iff.mp H
    obtain ⟨t473, A60, H⟩ := H
    replace H : ((value_Of.f a0_0 t473).bind fun bt476 => (if t462 = true then ((value_Canon.f k t464 t465 t466 t469).bind fun bt486 => ((phalaroperef08_Very.f k bt486.1 bt486.2.1 bt486.2.2.1 bt486.2.2.2 t464 t465 t466 t469).bind fun t494 => (if t494 = true then ((value_Same.f k a0_0 a0_1 l0_2 l0_3 t464 t465 t466 t469).bind fun t495 => (if t495 = true then ((value_Defined.f k a0_0 a0_1 l0_2 l0_3).bind fun t496 => (if (bt476.2.2.2.2 == t496) = true then ((phalaroperef08_Very.f k bt476.1 bt476.2.1 bt476.2.2.1 bt476.2.2.2.1 t464 t465 t466 t469).bind fun t497 => (if t497 = true then ((value_Defined.f k t464 t465 t466 t469).bind fun t498 => ((value_Defined.f k a0_0 a0_1 l0_2 l0_3).bind fun t499 => (if (t498 == t499) = true then ((value_Valid.f t464 t465 t466 t469).bind fun t500 => ((value_Valid.f a0_0 a0_1 l0_2 l0_3).bind fun t501 => (some (t500 == t501)))) else (some false)))) else (some false))) else (some false))) else (some false))) else (some false)))) else (some false))) = some r := H
    have A6 := Aside0.mk A60
    clear A60
    replace H := Option.bind_eq_some_iff.mp H
    obtain ⟨⟨t476, t477, t478, t481, t484⟩, A70, H⟩ := H
    replace H : (if t462 = true then ((value_Canon.f k t464 t465 t466 t469).bind fun bt486 => ((phalaroperef08_Very.f k bt486.1 bt486.2.1 bt486.2.2.1 bt486.2.2.2 t464 t465 t466 t469).bind fun t494 => (if t494 = true then ((value_Same.f k a0_0 a0_1 l0_2 l0_3 t464 t465 t466 t469).bind fun t495 => (if t495 = true then ((value_Defined.f k a0_0 a0_1 l0_2 l0_3).bind fun t496 => (if (t484 == t496) = true then ((phalaroperef08_Very.f k t476 t477 t478 t481 t464 t465 t466 t469).bind fun t497 => (if t497 = true then ((value_Defined.f k t464 t465 t466 t469).bind fun t498 => ((value_Defined.f k a0_0 a0_1 l0_2 l0_3).bind fun t499 => (if (t498 == t499) = true then ((value_Valid.f t464 t465 t466 t469).bind fun t500 => ((value_Valid.f a0_0 a0_1 l0_2 l0_3).bind fun t501 => (some (t500 == t501)))) else (some false)))) else (some false))) else (some false))) else (some false))) else (some false)))) else (some false)) = some r := H
    have A7 := Aside0.mk A70
    clear A70
    by_cases c8 : t462 = true
    · subst c8
      have H1 : ((value_Canon.f k t464 t465 t466 t469).bind fun bt486 => ((phalaroperef08_Very.f k bt486.1 bt486.2.1 bt486.2.2.1 bt486.2.2.2 t464 t465 t466 t469).bind fun t494 => (if t494 = true then ((value_Same.f k a0_0 a0_1 l0_2 l0_3 t464 t465 t466 t469).bind fun t495 => (if t495 = true then ((value_Defined.f k a0_0 a0_1 l0_2 l0_3).bind fun t496 => (if (t484 == t496) = true then ((phalaroperef08_Very.f k t476 t477 t478 t481 t464 t465 t466 t469).bind fun t497 => (if t497 = true then ((value_Defined.f k t464 t465 t466 t469).bind fun t498 => ((value_Defined.f k a0_0 a0_1 l0_2 l0_3).bind fun t499 => (if (t498 == t499) = true then ((value_Valid.f t464 t465 t466 t469).bind fun t500 => ((value_Valid.f a0_0 a0_1 l0_2 l0_3).bind fun t501 => (some (t500 == t501)))) else (some false)))) else (some false))) else (some false))) else (some false))) else (some false)))) = some r := by rw [if_pos rfl] at H; exact H
      clear H
      have H := H1
      clear H1
      replace H := Option.bind_eq_some_iff.mp H
      obtain ⟨⟨t486, t487, t488, t491⟩, A90, H⟩ := H
      replace H : ((phalaroperef08_Very.f k t486 t487 t488 t491 t464 t465 t466 t469).bind fun t494 => (if t494 = true then ((value_Same.f k a0_0 a0_1 l0_2 l0_3 t464 t465 t466 t469).bind fun t495 => (if t495 = true then ((value_Defined.f k a0_0 a0_1 l0_2 l0_3).bind fun t496 => (if (t484 == t496) = true then ((phalaroperef08_Very.f k t476 t477 t478 t481 t464 t465 t466 t469).bind fun t497 => (if t497 = true then ((value_Defined.f k t464 t465 t466 t469).bind fun t498 => ((value_Defined.f k a0_0 a0_1 l0_2 l0_3).bind fun t499 => (if (t498 == t499) = true then ((value_Valid.f t464 t465 t466 t469).bind fun t500 => ((value_Valid.f a0_0 a0_1 l0_2 l0_3).bind fun t501 => (some (t500 == t501)))) else (some false)))) else (some false))) else (some false))) else (some false))) else (some false))) = some r := H
      have A9 := Aside0.mk A90
      clear A90
      replace H := Option.bind_eq_some_iff.mp H
      obtain ⟨t494, A100, H⟩ := H
      replace H : (if t494 = true then ((value_Same.f k a0_0 a0_1 l0_2 l0_3 t464 t465 t466 t469).bind fun t495 => (if t495 = true then ((value_Defined.f k a0_0 a0_1 l0_2 l0_3).bind fun t496 => (if (t484 == t496) = true then ((phalaroperef08_Very.f k t476 t477 t478 t481 t464 t465 t466 t469).bind fun t497 => (if t497 = true then ((value_Defined.f k t464 t465 t466 t469).bind fun t498 => ((value_Defined.f k a0_0 a0_1 l0_2 l0_3).bind fun t499 => (if (t498 == t499) = true then ((value_Valid.f t464 t465 t466 t469).bind fun t500 => ((value_Valid.f a0_0 a0_1 l0_2 l0_3).bind fun t501 => (some (t500 == t501)))) else (some false)))) else (some false))) else (some false))) else (some false))) else (some false)) = some r := H
      have A10 := Aside0.mk A100
      clear A100
      by_cases c11 : t494 = true
      · subst c11
        have H1 : ((value_Same.f k a0_0 a0_1 l0_2 l0_3 t464 t465 t466 t469).bind fun t495 => (if t495 = true then ((value_Defined.f k a0_0 a0_1 l0_2 l0_3).bind fun t496 => (if (t484 == t496) = true then ((phalaroperef08_Very.f k t476 t477 t478 t481 t464 t465 t466 t469).bind fun t497 => (if t497 = true then ((value_Defined.f k t464 t465 t466 t469).bind fun t498 => ((value_Defined.f k a0_0 a0_1 l0_2 l0_3).bind fun t499 => (if (t498 == t499) = true then ((value_Valid.f t464 t465 t466 t469).bind fun t500 => ((value_Valid.f a0_0 a0_1 l0_2 l0_3).bind fun t501 => (some (t500 == t501)))) else (some false)))) else (some false))) else (some false))) else (some false))) = some r := by rw [if_pos rfl] at H; exact H
        clear H
        have H := H1
        clear H1
        replace H := Option.bind_eq_some_iff.mp H
        obtain ⟨t495, A120, H⟩ := H
        replace H : (if t495 = true then ((value_Defined.f k a0_0 a0_1 l0_2 l0_3).bind fun t496 => (if (t484 == t496) = true then ((phalaroperef08_Very.f k t476 t477 t478 t481 t464 t465 t466 t469).bind fun t497 => (if t497 = true then ((value_Defined.f k t464 t465 t466 t469).bind fun t498 => ((value_Defined.f k a0_0 a0_1 l0_2 l0_3).bind fun t499 => (if (t498 == t499) = true then ((value_Valid.f t464 t465 t466 t469).bind fun t500 => ((value_Valid.f a0_0 a0_1 l0_2 l0_3).bind fun t501 => (some (t500 == t501)))) else (some false)))) else (some false))) else (some false))) else (some false)) = some r := H
        have A12 := Aside0.mk A120
        clear A120
        by_cases c13 : t495 = true
        · subst c13
          have H1 : ((value_Defined.f k a0_0 a0_1 l0_2 l0_3).bind fun t496 => (if (t484 == t496) = true then ((phalaroperef08_Very.f k t476 t477 t478 t481 t464 t465 t466 t469).bind fun t497 => (if t497 = true then ((value_Defined.f k t464 t465 t466 t469).bind fun t498 => ((value_Defined.f k a0_0 a0_1 l0_2 l0_3).bind fun t499 => (if (t498 == t499) = true then ((value_Valid.f t464 t465 t466 t469).bind fun t500 => ((value_Valid.f a0_0 a0_1 l0_2 l0_3).bind fun t501 => (some (t500 == t501)))) else (some false)))) else (some false))) else (some false))) = some r := by rw [if_pos rfl] at H; exact H
          clear H
          have H := H1
          clear H1
          replace H := Option.bind_eq_some_iff.mp H
          obtain ⟨t496, A140, H⟩ := H
          replace H : (if (t484 == t496) = true then ((phalaroperef08_Very.f k t476 t477 t478 t481 t464 t465 t466 t469).bind fun t497 => (if t497 = true then ((value_Defined.f k t464 t465 t466 t469).bind fun t498 => ((value_Defined.f k a0_0 a0_1 l0_2 l0_3).bind fun t499 => (if (t498 == t499) = true then ((value_Valid.f t464 t465 t466 t469).bind fun t500 => ((value_Valid.f a0_0 a0_1 l0_2 l0_3).bind fun t501 => (some (t500 == t501)))) else (some false)))) else (some false))) else (some false)) = some r := H
          have A14 := Aside0.mk A140
          clear A140
          by_cases c15 : (t484 == t496) = true
          · rw [if_pos c15] at H
            have c15b0 : (t484 == t496) = true := c15
            (try (have c15b1 : decide (t484 = t496) = true := by simpa using c15))
            (try (have c15b2 : (t484 == t496) = true := by simpa using c15))
            clear c15
            replace H := Option.bind_eq_some_iff.mp H
            obtain ⟨t497, A160, H⟩ := H
            replace H : (if t497 = true then ((value_Defined.f k t464 t465 t466 t469).bind fun t498 => ((value_Defined.f k a0_0 a0_1 l0_2 l0_3).bind fun t499 => (if (t498 == t499) = true then ((value_Valid.f t464 t465 t466 t469).bind fun t500 => ((value_Valid.f a0_0 a0_1 l0_2 l0_3).bind fun t501 => (some (t500 == t501)))) else (some false)))) else (some false)) = some r := H
            have A16 := Aside0.mk A160
            clear A160
            by_cases c17 : t497 = true
            · subst c17
              have H1 : ((value_Defined.f k t464 t465 t466 t469).bind fun t498 => ((value_Defined.f k a0_0 a0_1 l0_2 l0_3).bind fun t499 => (if (t498 == t499) = true then ((value_Valid.f t464 t465 t466 t469).bind fun t500 => ((value_Valid.f a0_0 a0_1 l0_2 l0_3).bind fun t501 => (some (t500 == t501)))) else (some false)))) = some r := by rw [if_pos rfl] at H; exact H
              clear H
              have H := H1
              clear H1
              replace H := Option.bind_eq_some_iff.mp H
              obtain ⟨t498, A180, H⟩ := H
              replace H : ((value_Defined.f k a0_0 a0_1 l0_2 l0_3).bind fun t499 => (if (t498 == t499) = true then ((value_Valid.f t464 t465 t466 t469).bind fun t500 => ((value_Valid.f a0_0 a0_1 l0_2 l0_3).bind fun t501 => (some (t500 == t501)))) else (some false))) = some r := H
              have A18 := Aside0.mk A180
              clear A180
              replace H := Option.bind_eq_some_iff.mp H
              obtain ⟨t499, A190, H⟩ := H
              replace H : (if (t498 == t499) = true then ((value_Valid.f t464 t465 t466 t469).bind fun t500 => ((value_Valid.f a0_0 a0_1 l0_2 l0_3).bind fun t501 => (some (t500 == t501)))) else (some false)) = some r := H
              have A19 := Aside0.mk A190
              clear A190
              by_cases c20 : (t498 == t499) = true
              · rw [if_pos c20] at H
                have c20b0 : (t498 == t499) = true := c20
                (try (have c20b1 : decide (t498 = t499) = true := by simpa using c20))
                (try (have c20b2 : (t498 == t499) = true := by simpa using c20))
                clear c20
                replace H := Option.bind_eq_some_iff.mp H
                obtain ⟨t500, A210, H⟩ := H
                replace H : ((value_Valid.f a0_0 a0_1 l0_2 l0_3).bind fun t501 => (some (t500 == t501))) = some r := H
                have A21 := Aside0.mk A210
                clear A210
                replace H := Option.bind_eq_some_iff.mp H
                obtain ⟨t501, A220, H⟩ := H
                replace H : (some (t500 == t501)) = some r := H
                have A22 := Aside0.mk A220
                clear A220
                obtain rfl := Option.some.inj H
                go_enter Try.func19, Try.ntmps19
                try go_wp2_with (first | ((with_reducible refine gate_dst (N := 1) rfl ?_); refine box_event ?hg (N := 1) ?hd (cs := #[.int .i64 a0_0, .string a0_1, .slice A0_2 l0_2.length c0_2, .slice A0_3 l0_3.length c0_3]) (t := 52) ?hr ?_; (case hd => rfl); (case hg => rfl); (case hr => first | (go_simp; done) | (go_simp; rfl)); intro gb461 hg w23 hbox hb; have n0_ := Aside0.mk (below_step (by repeat (first | (with_reducible first | exact HB.out | apply below_alloc | apply pw_below_drewN | apply below_drew1) | exact HB.out)) hb); have n1_ := Aside0.mk (hbox); have n2_ := Aside0.mk ((by rw [hg]; exact (below_size (by repeat (first | (with_reducible first | exact HB.out | apply below_alloc | apply pw_below_drewN | apply below_drew1) | exact HB.out))) : w.heap.size ≤ gb461)); have n3_ := Aside0.mk ((by rw [hg]; exact (below_size (by repeat (first | (with_reducible first | exact HB.out | apply below_alloc | apply pw_below_drewN | apply below_drew1) | exact HB.out))) : w.heap.size ≤ gb461)); clear HB; have HB := n0_; have BK461 := n1_; have GW461 := n2_; have GE461 := n3_; clear n0_ n1_ n2_ n3_; clear hb hbox hg) | ((with_reducible refine gate_callee (f := 43) rfl ?_); refine goesL_ (some 7) rfl rfl Try.func43 (by kernel_rfl) rfl #[] rfl (by (try simp only [List.map_toArray, List.map_cons, List.map_nil]); first | done | rfl | (simp only [List.length_drop, List.length_take]; rfl)) ?_; (with_reducible refine (phalaropelaw08_awake.calls k  true _ A2.out).mono ?_); rintro e w24 ⟨rfl, hb⟩; refine ⟨_, rfl, ?_⟩; have n0_ := Aside0.mk (blk_below (g := gb461) (o := .cells #[.int .i64 a0_0, .string a0_1, .slice A0_2 l0_2.length c0_2, .slice A0_3 l0_3.length c0_3] 52 (0, 0)) (by (with_reducible repeat (first | refine blk_drewN ?_ _ | refine blk_drew ?_ | refine blk_alloc ?_ _)); exact BK461.out) hb); have n1_ := Aside0.mk (below_step (by repeat (first | (with_reducible first | exact HB.out | apply below_alloc | apply pw_below_drewN | apply below_drew1 | refine below_set ?_ GE461.out) | exact HB.out)) hb); clear BK461; clear HB; have BK461 := n0_; have HB := n1_; clear n0_ n1_; (try clear hb); (try clear hb2); (try clear hk); (try clear hi); have hcz25_0 : w24.cell? ⟨gb461, 0, none⟩ = some (.int .i64 a0_0) := (blk_cell BK461.out 0).trans rfl; have hcz25_1 : w24.cell? ⟨gb461, 1, none⟩ = some (.string a0_1) := (blk_cell BK461.out 1).trans rfl; have hcz25_2 : w24.cell? ⟨gb461, 2, none⟩ = some (.slice A0_2 l0_2.length c0_2) := (blk_cell BK461.out 2).trans rfl; have hcz25_3 : w24.cell? ⟨gb461, 3, none⟩ = some (.slice A0_3 l0_3.length c0_3) := (blk_cell BK461.out 3).trans rfl; have hfz25_0 := blk_frozen BK461.out 0; have hfz25_1 := blk_frozen BK461.out 1; have hfz25_2 := blk_frozen BK461.out 2; have hfz25_3 := blk_frozen BK461.out 3) | ((with_reducible refine gate_callee (f := 49) rfl ?_); refine goesL_ (some 9) rfl rfl Try.func49 (by kernel_rfl) rfl #[.agg #[.int .i64 a0_0, .string a0_1, .slice A0_2 l0_2.length c0_2, .slice A0_3 l0_3.length c0_3]] rfl (by (try simp only [List.map_toArray, List.map_cons, List.map_nil]); first | done | rfl | (simp only [List.length_drop, List.length_take]; rfl)) ?_; (with_reducible refine (phalaroperef08_Few.calls k a0_0 a0_1 _ _ l0_2 _ _ l0_3 true _ ?side1 ?side2 ?side3 ?side4 A3.out).mono ?_); (case side1 => repeat (first | exact (Kd.C_below HR0_2.out HB.out) | (with_reducible refine Kd.C_alloc ?_ _) | (with_reducible refine Kd.C_drewN ?_ _) | (with_reducible refine Kd.C_drew ?_))); (case side2 => exact HC0_2.out); (case side3 => repeat (first | exact (Kd.C_below HR0_3.out HB.out) | (with_reducible refine Kd.C_alloc ?_ _) | (with_reducible refine Kd.C_drewN ?_ _) | (with_reducible refine Kd.C_drew ?_))); (case side4 => exact HC0_3.out); rintro e w26 ⟨rfl, hb⟩; refine ⟨_, rfl, ?_⟩; have n0_ := Aside0.mk (blk_below (g := gb461) (o := .cells #[.int .i64 a0_0, .string a0_1, .slice A0_2 l0_2.length c0_2, .slice A0_3 l0_3.length c0_3] 52 (0, 0)) (by (with_reducible repeat (first | refine blk_drewN ?_ _ | refine blk_drew ?_ | refine blk_alloc ?_ _)); exact BK461.out) hb); have n1_ := Aside0.mk (below_step (by repeat (first | (with_reducible first | exact HB.out | apply below_alloc | apply pw_below_drewN | apply below_drew1 | refine below_set ?_ GE461.out) | exact HB.out)) hb); clear BK461; clear HB; have BK461 := n0_; have HB := n1_; clear n0_ n1_; (try clear hb); (try clear hb2); (try clear hk); (try clear hi); have hcz27_0 : w26.cell? ⟨gb461, 0, none⟩ = some (.int .i64 a0_0) := (blk_cell BK461.out 0).trans rfl; have hcz27_1 : w26.cell? ⟨gb461, 1, none⟩ = some (.string a0_1) := (blk_cell BK461.out 1).trans rfl; have hcz27_2 : w26.cell? ⟨gb461, 2, none⟩ = some (.slice A0_2 l0_2.length c0_2) := (blk_cell BK461.out 2).trans rfl; have hcz27_3 : w26.cell? ⟨gb461, 3, none⟩ = some (.slice A0_3 l0_3.length c0_3) := (blk_cell BK461.out 3).trans rfl; have hfz27_0 := blk_frozen BK461.out 0; have hfz27_1 := blk_frozen BK461.out 1; have hfz27_2 := blk_frozen BK461.out 2; have hfz27_3 := blk_frozen BK461.out 3) | ((with_reducible refine gate_callee (f := 54) rfl ?_); refine goesL_ (some 13) rfl rfl Try.func54 (by kernel_rfl) rfl #[.agg #[.int .i64 a0_0, .string a0_1, .slice A0_2 l0_2.length c0_2, .slice A0_3 l0_3.length c0_3]] rfl (by (try simp only [List.map_toArray, List.map_cons, List.map_nil]); first | done | rfl | (simp only [List.length_drop, List.length_take]; rfl)) ?_; (with_reducible refine (value_Canon.calls k a0_0 a0_1 _ _ l0_2 _ _ l0_3 t464 t465 t466 t469 _ ?side1 ?side2 ?side3 ?side4 A5.out).mono ?_); (case side1 => repeat (first | exact (Kd.C_below HR0_2.out HB.out) | (with_reducible refine Kd.C_alloc ?_ _) | (with_reducible refine Kd.C_drewN ?_ _) | (with_reducible refine Kd.C_drew ?_))); (case side2 => exact HC0_2.out); (case side3 => repeat (first | exact (Kd.C_below HR0_3.out HB.out) | (with_reducible refine Kd.C_alloc ?_ _) | (with_reducible refine Kd.C_drewN ?_ _) | (with_reducible refine Kd.C_drew ?_))); (case side4 => exact HC0_3.out); rintro e w28 ⟨v467, v470, rfl, ho0, ho1, hb⟩; refine ⟨_, rfl, ?_⟩; have n0_ := Aside0.mk (Kd.R_lower ho0 (below_size (by repeat (first | (with_reducible first | exact HB.out | apply below_alloc | apply pw_below_drewN | apply below_drew1 | refine below_set ?_ GE461.out) | exact HB.out)))); have n1_ := Aside0.mk (Kd.R_lower ho1 (below_size (by repeat (first | (with_reducible first | exact HB.out | apply below_alloc | apply pw_below_drewN | apply below_drew1 | refine below_set ?_ GE461.out) | exact HB.out)))); have n2_ := Aside0.mk (blk_below (g := gb461) (o := .cells #[.int .i64 a0_0, .string a0_1, .slice A0_2 l0_2.length c0_2, .slice A0_3 l0_3.length c0_3] 52 (0, 0)) (by (with_reducible repeat (first | refine blk_drewN ?_ _ | refine blk_drew ?_ | refine blk_alloc ?_ _)); exact BK461.out) hb); have n3_ := Aside0.mk (below_step (by repeat (first | (with_reducible first | exact HB.out | apply below_alloc | apply pw_below_drewN | apply below_drew1 | refine below_set ?_ GE461.out) | exact HB.out)) hb); clear BK461; clear HB; have HO468 := n0_; have HO471 := n1_; have BK461 := n2_; have HB := n3_; clear n0_ n1_ n2_ n3_; (try clear hb); (try clear hb2); (try clear hk); (try clear hi); (try clear ho0); (try clear ho1)) | ((with_reducible refine gate_dst (N := 4) rfl ?_); refine box_event ?hg (N := 4) ?hd (cs := #[.int .i64 0, .string (⟨#[]⟩ : ByteArray), .slice none 0 0, .slice none 0 0]) (t := 52) ?hr ?_; (case hd => rfl); (case hg => rfl); (case hr => first | (go_simp; done) | (go_simp; rfl)); intro gb472 hg w29 hbox hb; have n0_ := Aside0.mk (Kd.R_below (by (with_reducible repeat (first | apply Kd.R_alloc | apply Kd.R_drewN | apply Kd.R_drew)); exact HO468.out) hb); have n1_ := Aside0.mk (Kd.R_below (by (with_reducible repeat (first | apply Kd.R_alloc | apply Kd.R_drewN | apply Kd.R_drew)); exact HO471.out) hb); have n2_ := Aside0.mk (blk_below (g := gb461) (o := .cells #[.int .i64 a0_0, .string a0_1, .slice A0_2 l0_2.length c0_2, .slice A0_3 l0_3.length c0_3] 52 (0, 0)) (by (with_reducible repeat (first | refine blk_drewN ?_ _ | refine blk_drew ?_ | refine blk_alloc ?_ _)); exact BK461.out) hb); have n3_ := Aside0.mk (below_step (by repeat (first | (with_reducible first | exact HB.out | apply below_alloc | apply pw_below_drewN | apply below_drew1 | refine below_set ?_ GE461.out) | exact HB.out)) hb); have n4_ := Aside0.mk (hbox); have n5_ := Aside0.mk ((by rw [hg]; exact (below_size (by repeat (first | (with_reducible first | exact HB.out | apply below_alloc | apply pw_below_drewN | apply below_drew1 | refine below_set ?_ GE461.out) | exact HB.out))) : w.heap.size ≤ gb472)); have n6_ := Aside0.mk ((by rw [hg]; exact (below_size (by repeat (first | (with_reducible first | exact HB.out | apply below_alloc | apply pw_below_drewN | apply below_drew1 | refine below_set ?_ GE461.out) | exact HB.out))) : w.heap.size ≤ gb472)); have n7_ := Aside0.mk ((by rw [hg]; exact Nat.ne_of_lt (blk_lt (g := gb461) (o := .cells #[.int .i64 a0_0, .string a0_1, .slice A0_2 l0_2.length c0_2, .slice A0_3 l0_3.length c0_3] 52 (0, 0)) (by (with_reducible repeat (first | refine blk_drewN ?_ _ | refine blk_drew ?_ | refine blk_alloc ?_ _)); exact BK461.out)) : gb461 ≠ gb472)); have n8_ := Aside0.mk ((by rw [hg]; exact Nat.ne_of_gt (blk_lt (g := gb461) (o := .cells #[.int .i64 a0_0, .string a0_1, .slice A0_2 l0_2.length c0_2, .slice A0_3 l0_3.length c0_3] 52 (0, 0)) (by (with_reducible repeat (first | refine blk_drewN ?_ _ | refine blk_drew ?_ | refine blk_alloc ?_ _)); exact BK461.out)) : gb472 ≠ gb461)); clear HO468; clear HO471; clear BK461; clear HB; have HO468 := n0_; have HO471 := n1_; have BK461 := n2_; have HB := n3_; have BK472 := n4_; have GW472 := n5_; have GE472 := n6_; have NB461_472 := n7_; have NB472_461 := n8_; clear n0_ n1_ n2_ n3_ n4_ n5_ n6_ n7_ n8_; clear hb hbox hg; have hnb30 := NB472_461.out; have hnc30 := NB461_472.out; have hcz31_0 : w29.cell? ⟨gb472, 0, none⟩ = some (.int .i64 0) := (blk_cell BK472.out 0).trans rfl; have hcz31_1 : w29.cell? ⟨gb472, 1, none⟩ = some (.string (⟨#[]⟩ : ByteArray)) := (blk_cell BK472.out 1).trans rfl; have hcz31_2 : w29.cell? ⟨gb472, 2, none⟩ = some (.slice none 0 0) := (blk_cell BK472.out 2).trans rfl; have hcz31_3 : w29.cell? ⟨gb472, 3, none⟩ = some (.slice none 0 0) := (blk_cell BK472.out 3).trans rfl; have hfz31_0 := blk_frozen BK472.out 0; have hfz31_1 := blk_frozen BK472.out 1; have hfz31_2 := blk_frozen BK472.out 2; have hfz31_3 := blk_frozen BK472.out 3; obtain ⟨Ao32, co32, eo32⟩ := Kd.R_slice HO468.out; subst eo32; obtain ⟨Ao33, co33, eo33⟩ := Kd.R_slice HO471.out; subst eo33))
                have n0_ : Aside0 (Kd.R Kd.string 9 ((((w29.setCell ⟨gb472, 0, none⟩ (.int .i64 t464)).setCell ⟨gb472, 1, none⟩ (.string t465)).setCell ⟨gb472, 2, none⟩ (.slice Ao32 t466.length co32)).setCell ⟨gb472, 3, none⟩ (.slice Ao33 t469.length co33)) w.heap.size (fun _ => True) (.slice Ao32 t466.length co32) t466) := ⟨by (with_reducible repeat (first | apply Kd.R_alloc | apply Kd.R_drewN | apply Kd.R_drew)); exact Kd.R_mono (Kd.R_far (p := ⟨gb472, 3, none⟩) (Kd.R_far (p := ⟨gb472, 2, none⟩) (Kd.R_far (p := ⟨gb472, 1, none⟩) (Kd.R_far (p := ⟨gb472, 0, none⟩) (Kd.R_types HO468.out BK472.out (by decide)) (fun _ hk => hk.2) (.int .i64 t464)) (fun _ hk => hk.2) (.string t465)) (fun _ hk => hk.2) (.slice Ao32 t466.length co32)) (fun _ hk => hk.2) (.slice Ao33 t469.length co33)) (fun _ hk => trivial)⟩
                have n1_ : Aside0 (Kd.R k76 76 ((((w29.setCell ⟨gb472, 0, none⟩ (.int .i64 t464)).setCell ⟨gb472, 1, none⟩ (.string t465)).setCell ⟨gb472, 2, none⟩ (.slice Ao32 t466.length co32)).setCell ⟨gb472, 3, none⟩ (.slice Ao33 t469.length co33)) w.heap.size (fun _ => True) (.slice Ao33 t469.length co33) t469) := ⟨by (with_reducible repeat (first | apply Kd.R_alloc | apply Kd.R_drewN | apply Kd.R_drew)); exact Kd.R_mono (Kd.R_far (p := ⟨gb472, 3, none⟩) (Kd.R_far (p := ⟨gb472, 2, none⟩) (Kd.R_far (p := ⟨gb472, 1, none⟩) (Kd.R_far (p := ⟨gb472, 0, none⟩) (Kd.R_types HO471.out BK472.out (by decide)) (fun _ hk => hk.2) (.int .i64 t464)) (fun _ hk => hk.2) (.string t465)) (fun _ hk => hk.2) (.slice Ao32 t466.length co32)) (fun _ hk => hk.2) (.slice Ao33 t469.length co33)) (fun _ hk => trivial)⟩
                have n2_ : Aside0 (((((w29.setCell ⟨gb472, 0, none⟩ (.int .i64 t464)).setCell ⟨gb472, 1, none⟩ (.string t465)).setCell ⟨gb472, 2, none⟩ (.slice Ao32 t466.length co32)).setCell ⟨gb472, 3, none⟩ (.slice Ao33 t469.length co33)).heap[gb461]? = some (.cells #[.int .i64 a0_0, .string a0_1, .slice A0_2 l0_2.length c0_2, .slice A0_3 l0_3.length c0_3] 52 (0, 0))) := ⟨by (with_reducible repeat (first | refine blk_drewN ?_ _ | refine blk_drew ?_ | refine blk_alloc ?_ _)); refine blk_far ?_ NB461_472.out _; (with_reducible repeat (first | refine blk_drewN ?_ _ | refine blk_drew ?_ | refine blk_alloc ?_ _)); refine blk_far ?_ NB461_472.out _; (with_reducible repeat (first | refine blk_drewN ?_ _ | refine blk_drew ?_ | refine blk_alloc ?_ _)); refine blk_far ?_ NB461_472.out _; (with_reducible repeat (first | refine blk_drewN ?_ _ | refine blk_drew ?_ | refine blk_alloc ?_ _)); refine blk_far ?_ NB461_472.out _; (with_reducible repeat (first | refine blk_drewN ?_ _ | refine blk_drew ?_ | refine blk_alloc ?_ _)); exact BK461.out⟩
                have n3_ : Aside0 (((((w29.setCell ⟨gb472, 0, none⟩ (.int .i64 t464)).setCell ⟨gb472, 1, none⟩ (.string t465)).setCell ⟨gb472, 2, none⟩ (.slice Ao32 t466.length co32)).setCell ⟨gb472, 3, none⟩ (.slice Ao33 t469.length co33)).heap[gb472]? = some (.cells #[.int .i64 t464, .string t465, .slice Ao32 t466.length co32, .slice Ao33 t469.length co33] 52 (0, 0))) := ⟨by (with_reducible repeat (first | refine blk_drewN ?_ _ | refine blk_drew ?_ | refine blk_alloc ?_ _)); refine blk_put (cs := #[.int .i64 t464, .string t465, .slice Ao32 t466.length co32, .slice none 0 0]) ?_ 3 _ rfl; (with_reducible repeat (first | refine blk_drewN ?_ _ | refine blk_drew ?_ | refine blk_alloc ?_ _)); refine blk_put (cs := #[.int .i64 t464, .string t465, .slice none 0 0, .slice none 0 0]) ?_ 2 _ rfl; (with_reducible repeat (first | refine blk_drewN ?_ _ | refine blk_drew ?_ | refine blk_alloc ?_ _)); refine blk_put (cs := #[.int .i64 t464, .string (⟨#[]⟩ : ByteArray), .slice none 0 0, .slice none 0 0]) ?_ 1 _ rfl; (with_reducible repeat (first | refine blk_drewN ?_ _ | refine blk_drew ?_ | refine blk_alloc ?_ _)); refine blk_put (cs := #[.int .i64 0, .string (⟨#[]⟩ : ByteArray), .slice none 0 0, .slice none 0 0]) ?_ 0 _ rfl; (with_reducible repeat (first | refine blk_drewN ?_ _ | refine blk_drew ?_ | refine blk_alloc ?_ _)); exact BK472.out⟩
                have n4_ : Aside0 (Below w.heap.size w ((((w29.setCell ⟨gb472, 0, none⟩ (.int .i64 t464)).setCell ⟨gb472, 1, none⟩ (.string t465)).setCell ⟨gb472, 2, none⟩ (.slice Ao32 t466.length co32)).setCell ⟨gb472, 3, none⟩ (.slice Ao33 t469.length co33))) := ⟨by repeat (first | (with_reducible first | exact HB.out | apply below_alloc | apply pw_below_drewN | apply below_drew1 | refine below_set ?_ GE461.out | refine below_set ?_ GE472.out) | exact HB.out)⟩
                (try clear HO468)
                (try clear HO471)
                (try clear BK461)
                (try clear BK472)
                (try clear HB)
                generalize ((((w29.setCell ⟨gb472, 0, none⟩ (.int .i64 t464)).setCell ⟨gb472, 1, none⟩ (.string t465)).setCell ⟨gb472, 2, none⟩ (.slice Ao32 t466.length co32)).setCell ⟨gb472, 3, none⟩ (.slice Ao33 t469.length co33)) = w34 at n0_ n1_ n2_ n3_ n4_ ⊢
                have HO468 := n0_
                have HO471 := n1_
                have BK461 := n2_
                have BK472 := n3_
                have HB := n4_
                clear n0_ n1_ n2_ n3_ n4_
                have n0_ := Aside0.mk (Kd.R_drew HO468.out)
                have n1_ := Aside0.mk (Kd.R_drew HO471.out)
                have n2_ := Aside0.mk (blk_drew BK461.out)
                have n3_ := Aside0.mk (blk_drew BK472.out)
                have n4_ := Aside0.mk (below_drew1 HB.out)
                clear HO468
                clear HO471
                clear BK461
                clear BK472
                clear HB
                have HO468 := n0_
                have HO471 := n1_
                have BK461 := n2_
                have BK472 := n3_
                have HB := n4_
                clear n0_ n1_ n2_ n3_ n4_
                refine start_ (n := 11) (S := fun w' => w'.cell? ⟨gb461, 0, none⟩ = some (.int .i64 a0_0) ∧ w'.cell? ⟨gb461, 1, none⟩ = some (.string a0_1) ∧ w'.cell? ⟨gb461, 2, none⟩ = some (.slice A0_2 l0_2.length c0_2) ∧ w'.cell? ⟨gb461, 3, none⟩ = some (.slice A0_3 l0_3.length c0_3)) (ds := []) #[false, false, false, false, false, false, false, false, false, false, false] (by kernel_rfl) rfl rfl ⟨(blk_cell BK461.out 0).trans rfl, (blk_cell BK461.out 1).trans rfl, (blk_cell BK461.out 2).trans rfl, (blk_cell BK461.out 3).trans rfl⟩ (fun hHeld => ?_); refine with_tabW phalaropelaw08_ValueCanon.tab5 phalaropelaw08_ValueCanon.bits5 (fun HT_ HW_ => ?_)
                generalize w34.drew = w35 at HO468 HO471 BK461 BK472 HB hHeld ⊢
                refine pure_ (i := 0) (N := some 15) (v := ?_) (a' := ?_) #[true, false, false, false, false, false, false, false, false, false, false] rfl rfl (any_of HT_.out (by kernel_rfl)) (fun _ _ _ h => h) (Or.inl ⟨by rfl, ?_⟩) ?_ ?_
                rotate_left
                · intro w'
                  go_simp
                  with_reducible rfl
                rotate_left
                · simp only [Act.put, List.setIfInBounds_toArray, List.set_cons_zero, List.set_cons_succ, i64_w, i32_w]
                  rfl
                refine take_ (i := 1) (N := some 16) (v := ?_) (a' := ?_) #[true, true, false, false, false, false, false, false, false, false, false] rfl rfl (take_ofW HT_.out HW_.out (by kernel_rfl)) (fun _ _ _ h => h) (Or.inl ⟨by rfl, ?_⟩) hHeld ?_ ?_
                rotate_left
                · rintro w' ⟨s0, s1, s2, s3⟩
                  go_simp
                  with_reducible rfl
                rotate_left
                · simp only [Act.put, List.setIfInBounds_toArray, List.set_cons_zero, List.set_cons_succ, i64_w, i32_w]
                  rfl
                refine take_ (i := 2) (N := some 17) (v := ?_) (a' := ?_) #[true, true, true, false, false, false, false, false, false, false, false] rfl rfl (take_ofW HT_.out HW_.out (by kernel_rfl)) (fun _ _ _ h => h) (Or.inl ⟨by rfl, ?_⟩) hHeld ?_ ?_
                rotate_left
                · rintro w' ⟨s0, s1, s2, s3⟩
                  go_simp
                  with_reducible rfl
                rotate_left
                · simp only [Act.put, List.setIfInBounds_toArray, List.set_cons_zero, List.set_cons_succ, i64_w, i32_w]
                  rfl
                refine join_ (σ := Value × Value × Value × Nat) 2 #[true, true, true, true, true, true, true, true, true, false, false] (fun s_ => [(18, s_.1), (19, .tuple #[.agg #[.int .i64 t476, .string t477, s_.2.1, s_.2.2.1], .bool t484]), (5, .pointer (some ⟨s_.2.2.2, 0, none⟩)), (14, .tuple #[.agg #[.int .i64 t476, .string t477, s_.2.1, s_.2.2.1], .bool t484]), (20, .agg #[.int .i64 t476, .string t477, s_.2.1, s_.2.2.1]), (21, .bool t484)]) (fun s_ w' => (w'.cell? ⟨gb461, 0, none⟩ = some (.int .i64 a0_0) ∧ w'.cell? ⟨gb461, 1, none⟩ = some (.string a0_1) ∧ w'.cell? ⟨gb461, 2, none⟩ = some (.slice A0_2 l0_2.length c0_2) ∧ w'.cell? ⟨gb461, 3, none⟩ = some (.slice A0_3 l0_3.length c0_3)) ∧ (Kd.R Kd.string 9 w' w.heap.size (fun k_ => some k_ ≠ (s_.1 : Value).ownBlock ∧ some k_ ≠ (s_.2.1 : Value).ownBlock) (.slice Ao32 t466.length co32) t466) ∧ (Kd.R k76 76 w' w.heap.size (fun k_ => some k_ ≠ (s_.2.2.1 : Value).ownBlock) (.slice Ao33 t469.length co33) t469) ∧ (Kd.R Kd.string 9 w' w.heap.size (fun k_ => some k_ ≠ (.slice Ao32 t466.length co32 : Value).ownBlock ∧ some k_ ≠ (s_.2.1 : Value).ownBlock) s_.1 t473) ∧ (Kd.R Kd.string 9 w' w.heap.size (fun k_ => some k_ ≠ (.slice Ao32 t466.length co32 : Value).ownBlock ∧ some k_ ≠ (s_.1 : Value).ownBlock) s_.2.1 t478) ∧ (Kd.R k76 76 w' w.heap.size (fun k_ => some k_ ≠ (.slice Ao33 t469.length co33 : Value).ownBlock) s_.2.2.1 t481) ∧ (w'.heap[gb461]? = some (.cells #[.int .i64 a0_0, .string a0_1, .slice A0_2 l0_2.length c0_2, .slice A0_3 l0_3.length c0_3] 52 (0, 0))) ∧ (w'.heap[gb472]? = some (.cells #[.int .i64 t464, .string t465, .slice Ao32 t466.length co32, .slice Ao33 t469.length co33] 52 (0, 0))) ∧ (w'.heap[s_.2.2.2]? = some (.cells #[.int .i64 0, .string (⟨#[]⟩ : ByteArray), .slice none 0 0, .slice none 0 0] 52 (0, 0))) ∧ (w.heap.size ≤ s_.2.2.2) ∧ (w.heap.size ≤ s_.2.2.2) ∧ (gb461 ≠ s_.2.2.2) ∧ (s_.2.2.2 ≠ gb461) ∧ (gb472 ≠ s_.2.2.2) ∧ (s_.2.2.2 ≠ gb472) ∧ (Below w.heap.size w w')) ?_ ?_
                rotate_left
                · intro hCont
                  refine two_ (i := 3) (j := 8) (Ni := some 18) (Nj := some 5) #[true, true, true, true, false, false, false, false, false, false, false] #[true, true, true, false, false, false, false, false, true, false, false] rfl rfl rfl rfl (two_of HT_.out (by kernel_rfl)) (by decide) (by decide) (fun K hK => ?_) (fun K hK => ?_)
                  · skip
                    refine goes_ Try.func48 (by kernel_rfl) rfl #[.agg #[.int .i64 a0_0, .string a0_1, .slice A0_2 l0_2.length c0_2, .slice A0_3 l0_3.length c0_3]] (by rfl) rfl rfl (by (try simp only [List.map_toArray, List.map_cons, List.map_nil]); first | done | rfl | (simp only [List.length_drop, List.length_take]; rfl)) ?_
                    with_reducible refine (value_Texts.calls k a0_0 a0_1 _ _ l0_2 _ _ l0_3 t473 _ ?side1 ?side2 ?side3 ?side4 A6.out).mono ?_
                    (case side1 => repeat (first | exact (Kd.C_below HR0_2.out HB.out) | (with_reducible refine Kd.C_alloc ?_ _) | (with_reducible refine Kd.C_drewN ?_ _) | (with_reducible refine Kd.C_drew ?_)))
                    (case side2 => exact HC0_2.out)
                    (case side3 => repeat (first | exact (Kd.C_below HR0_3.out HB.out) | (with_reducible refine Kd.C_alloc ?_ _) | (with_reducible refine Kd.C_drewN ?_ _) | (with_reducible refine Kd.C_drew ?_)))
                    (case side4 => exact HC0_3.out)
                    rintro e w36 ⟨v474, rfl, ho0, hb⟩
                    refine ⟨_, rfl, ?_⟩
                    have n0_ := Aside0.mk (Kd.R_elder' (by (with_reducible repeat (first | apply Kd.R_alloc | apply Kd.R_drewN | apply Kd.R_drew)); exact HO468.out) (Kd.R_base ho0) hb)
                    have n1_ := Aside0.mk (Kd.R_below (by (with_reducible repeat (first | apply Kd.R_alloc | apply Kd.R_drewN | apply Kd.R_drew)); exact HO471.out) hb)
                    have n2_ := Aside0.mk (Kd.R_lower (Kd.R_new' ho0 (Kd.R_lt (by (with_reducible repeat (first | apply Kd.R_alloc | apply Kd.R_drewN | apply Kd.R_drew)); exact HO468.out))) (below_size (by repeat (first | (with_reducible first | exact HB.out | apply below_alloc | apply pw_below_drewN | apply below_drew1 | refine below_set ?_ GE461.out | refine below_set ?_ GE472.out) | exact HB.out))))
                    have n3_ := Aside0.mk (blk_below (g := gb461) (o := .cells #[.int .i64 a0_0, .string a0_1, .slice A0_2 l0_2.length c0_2, .slice A0_3 l0_3.length c0_3] 52 (0, 0)) (by (with_reducible repeat (first | refine blk_drewN ?_ _ | refine blk_drew ?_ | refine blk_alloc ?_ _)); exact BK461.out) hb)
                    have n4_ := Aside0.mk (blk_below (g := gb472) (o := .cells #[.int .i64 t464, .string t465, .slice Ao32 t466.length co32, .slice Ao33 t469.length co33] 52 (0, 0)) (by (with_reducible repeat (first | refine blk_drewN ?_ _ | refine blk_drew ?_ | refine blk_alloc ?_ _)); exact BK472.out) hb)
                    have n5_ := Aside0.mk (below_step (by repeat (first | (with_reducible first | exact HB.out | apply below_alloc | apply pw_below_drewN | apply below_drew1 | refine below_set ?_ GE461.out | refine below_set ?_ GE472.out) | exact HB.out)) hb)
                    clear HO468
                    clear HO471
                    clear BK461
                    clear BK472
                    clear HB
                    have HO468 := n0_
                    have HO471 := n1_
                    have HO475 := n2_
                    have BK461 := n3_
                    have BK472 := n4_
                    have HB := n5_
                    clear n0_ n1_ n2_ n3_ n4_ n5_
                    (try clear hb)
                    (try clear hb2)
                    (try clear hk)
                    (try clear hi)
                    (try clear ho0)
                    obtain ⟨Ao37, co37, eo37⟩ := Kd.R_slice HO475.out
                    (first | subst eo37 | (injection eo37 with f1_ f2_ f3_; have f4_ := f1_.symm; have f5_ := f3_.symm; clear f1_ f2_ f3_; subst f4_; subst f5_))
                    refine hK.out _ _ ⟨(blk_cell BK461.out 0).trans rfl, (blk_cell BK461.out 1).trans rfl, (blk_cell BK461.out 2).trans rfl, (blk_cell BK461.out 3).trans rfl⟩ (fun hHeld => ?_)
                    clear hK K
                    refine norm_ (a' := ?_) ?_ ?_
                    rotate_left
                    · show Act.put _ (some 18) _ = _
                      simp only [Act.put, List.setIfInBounds_toArray, List.set_cons_zero, List.set_cons_succ, i64_w, i32_w]
                      rfl
                    refine two_ (i := 4) (j := 8) (Ni := some 19) (Nj := some 5) #[true, true, true, true, true, false, false, false, false, false, false] #[true, true, true, true, false, false, false, false, true, false, false] rfl rfl rfl rfl (two_of HT_.out (by kernel_rfl)) (by decide) (by decide) (fun K hK => ?_) (fun K hK => ?_)
                    · skip
                      refine goes_ Try.func44 (by kernel_rfl) rfl #[.int .i64 a0_0, .slice Ao37 t473.length co37] (by rfl) rfl rfl (by (try simp only [List.map_toArray, List.map_cons, List.map_nil]); first | done | rfl | (simp only [List.length_drop, List.length_take]; rfl)) ?_
                      with_reducible refine (value_Of.calls a0_0 _ _ t473 t476 t477 t478 t481 t484 _ ?side1 ?side2 A7.out).mono ?_
                      (case side1 => repeat (first | exact (Kd.R_reads' HO475.out).2.2 | (with_reducible refine Kd.C_alloc ?_ _) | (with_reducible refine Kd.C_drewN ?_ _) | (with_reducible refine Kd.C_drew ?_)))
                      (case side2 => exact (Kd.R_reads' HO475.out).2.1)
                      rintro e w38 ⟨v479, v482, rfl, ho0, ho1, hb⟩
                      refine ⟨_, rfl, ?_⟩
                      have n0_ := Aside0.mk (Kd.R_elder' (by (with_reducible repeat (first | apply Kd.R_alloc | apply Kd.R_drewN | apply Kd.R_drew)); exact HO468.out) (Kd.R_base ho0) hb)
                      have n1_ := Aside0.mk (Kd.R_elder' (by (with_reducible repeat (first | apply Kd.R_alloc | apply Kd.R_drewN | apply Kd.R_drew)); exact HO471.out) (Kd.R_base ho1) hb)
                      have n2_ := Aside0.mk (Kd.R_elder' (by (with_reducible repeat (first | apply Kd.R_alloc | apply Kd.R_drewN | apply Kd.R_drew)); exact HO475.out) (Kd.R_base ho0) hb)
                      have n3_ := Aside0.mk (Kd.R_lower (Kd.R_new' (Kd.R_new' ho0 (Kd.R_lt (by (with_reducible repeat (first | apply Kd.R_alloc | apply Kd.R_drewN | apply Kd.R_drew)); exact HO468.out))) (Kd.R_lt (by (with_reducible repeat (first | apply Kd.R_alloc | apply Kd.R_drewN | apply Kd.R_drew)); exact HO475.out))) (below_size (by repeat (first | (with_reducible first | exact HB.out | apply below_alloc | apply pw_below_drewN | apply below_drew1 | refine below_set ?_ GE461.out | refine below_set ?_ GE472.out) | exact HB.out))))
                      have n4_ := Aside0.mk (Kd.R_lower (Kd.R_new' ho1 (Kd.R_lt (by (with_reducible repeat (first | apply Kd.R_alloc | apply Kd.R_drewN | apply Kd.R_drew)); exact HO471.out))) (below_size (by repeat (first | (with_reducible first | exact HB.out | apply below_alloc | apply pw_below_drewN | apply below_drew1 | refine below_set ?_ GE461.out | refine below_set ?_ GE472.out) | exact HB.out))))
                      have n5_ := Aside0.mk (blk_below (g := gb461) (o := .cells #[.int .i64 a0_0, .string a0_1, .slice A0_2 l0_2.length c0_2, .slice A0_3 l0_3.length c0_3] 52 (0, 0)) (by (with_reducible repeat (first | refine blk_drewN ?_ _ | refine blk_drew ?_ | refine blk_alloc ?_ _)); exact BK461.out) hb)
                      have n6_ := Aside0.mk (blk_below (g := gb472) (o := .cells #[.int .i64 t464, .string t465, .slice Ao32 t466.length co32, .slice Ao33 t469.length co33] 52 (0, 0)) (by (with_reducible repeat (first | refine blk_drewN ?_ _ | refine blk_drew ?_ | refine blk_alloc ?_ _)); exact BK472.out) hb)
                      have n7_ := Aside0.mk (below_step (by repeat (first | (with_reducible first | exact HB.out | apply below_alloc | apply pw_below_drewN | apply below_drew1 | refine below_set ?_ GE461.out | refine below_set ?_ GE472.out) | exact HB.out)) hb)
                      clear HO468
                      clear HO471
                      clear HO475
                      clear BK461
                      clear BK472
                      clear HB
                      have HO468 := n0_
                      have HO471 := n1_
                      have HO475 := n2_
                      have HO480 := n3_
                      have HO483 := n4_
                      have BK461 := n5_
                      have BK472 := n6_
                      have HB := n7_
                      clear n0_ n1_ n2_ n3_ n4_ n5_ n6_ n7_
                      (try clear hb)
                      (try clear hb2)
                      (try clear hk)
                      (try clear hi)
                      (try clear ho0)
                      (try clear ho1)
                      refine hK.out _ _ ⟨(blk_cell BK461.out 0).trans rfl, (blk_cell BK461.out 1).trans rfl, (blk_cell BK461.out 2).trans rfl, (blk_cell BK461.out 3).trans rfl⟩ (fun hHeld => ?_)
                      clear hK K
                      refine norm_ (a' := ?_) ?_ ?_
                      rotate_left
                      · show Act.put _ (some 19) _ = _
                        simp only [Act.put, List.setIfInBounds_toArray, List.set_cons_zero, List.set_cons_succ, i64_w, i32_w]
                        rfl
                      refine pure_ (i := 5) (N := some 14) (v := ?_) (a' := ?_) #[true, true, true, true, true, true, false, false, false, false, false] rfl rfl (any_of HT_.out (by kernel_rfl)) (fun _ _ _ h => h) (Or.inl ⟨by rfl, ?_⟩) ?_ ?_
                      rotate_left
                      · intro w'
                        go_simp
                        with_reducible rfl
                      rotate_left
                      · simp only [Act.put, List.setIfInBounds_toArray, List.set_cons_zero, List.set_cons_succ, i64_w, i32_w]
                        rfl
                      refine pure_ (i := 6) (N := some 20) (v := ?_) (a' := ?_) #[true, true, true, true, true, true, true, false, false, false, false] rfl rfl (any_of HT_.out (by kernel_rfl)) (fun _ _ _ h => h) (Or.inl ⟨by rfl, ?_⟩) ?_ ?_
                      rotate_left
                      · intro w'
                        go_simp
                        with_reducible rfl
                      rotate_left
                      · simp only [Act.put, List.setIfInBounds_toArray, List.set_cons_zero, List.set_cons_succ, i64_w, i32_w]
                        rfl
                      refine pure_ (i := 7) (N := some 21) (v := ?_) (a' := ?_) #[true, true, true, true, true, true, true, true, false, false, false] rfl rfl (any_of HT_.out (by kernel_rfl)) (fun _ _ _ h => h) (Or.inl ⟨by rfl, ?_⟩) ?_ ?_
                      rotate_left
                      · intro w'
                        go_simp
                        with_reducible rfl
                      rotate_left
                      · simp only [Act.put, List.setIfInBounds_toArray, List.set_cons_zero, List.set_cons_succ, i64_w, i32_w]
                        rfl
                      refine one_ (i := 8) (N := some 5) #[true, true, true, true, true, true, true, true, true, false, false] rfl rfl (one_of HT_.out (by kernel_rfl)) (by decide) (fun K hK => ?_)
                      refine box_step ?hg (N := 5) ?hd (cs := #[.int .i64 0, .string (⟨#[]⟩ : ByteArray), .slice none 0 0, .slice none 0 0]) (t := 52) ?hr ?_; (case hd => rfl); (case hg => rfl); (case hr => first | (go_simp; done) | (go_simp; rfl))
                      intro gb485 hg w39 hbox hb
                      have n0_ := Aside0.mk (Kd.R_below (by (with_reducible repeat (first | apply Kd.R_alloc | apply Kd.R_drewN | apply Kd.R_drew)); exact HO468.out) hb)
                      have n1_ := Aside0.mk (Kd.R_below (by (with_reducible repeat (first | apply Kd.R_alloc | apply Kd.R_drewN | apply Kd.R_drew)); exact HO471.out) hb)
                      have n2_ := Aside0.mk (Kd.R_below (by (with_reducible repeat (first | apply Kd.R_alloc | apply Kd.R_drewN | apply Kd.R_drew)); exact HO475.out) hb)
                      have n3_ := Aside0.mk (Kd.R_below (by (with_reducible repeat (first | apply Kd.R_alloc | apply Kd.R_drewN | apply Kd.R_drew)); exact HO480.out) hb)
                      have n4_ := Aside0.mk (Kd.R_below (by (with_reducible repeat (first | apply Kd.R_alloc | apply Kd.R_drewN | apply Kd.R_drew)); exact HO483.out) hb)
                      have n5_ := Aside0.mk (blk_below (g := gb461) (o := .cells #[.int .i64 a0_0, .string a0_1, .slice A0_2 l0_2.length c0_2, .slice A0_3 l0_3.length c0_3] 52 (0, 0)) (by (with_reducible repeat (first | refine blk_drewN ?_ _ | refine blk_drew ?_ | refine blk_alloc ?_ _)); exact BK461.out) hb)
                      have n6_ := Aside0.mk (blk_below (g := gb472) (o := .cells #[.int .i64 t464, .string t465, .slice Ao32 t466.length co32, .slice Ao33 t469.length co33] 52 (0, 0)) (by (with_reducible repeat (first | refine blk_drewN ?_ _ | refine blk_drew ?_ | refine blk_alloc ?_ _)); exact BK472.out) hb)
                      have n7_ := Aside0.mk (below_step (by repeat (first | (with_reducible first | exact HB.out | apply below_alloc | apply pw_below_drewN | apply below_drew1 | refine below_set ?_ GE461.out | refine below_set ?_ GE472.out) | exact HB.out)) hb)
                      have n8_ := Aside0.mk (hbox)
                      have n9_ := Aside0.mk ((by rw [hg]; exact (below_size (by repeat (first | (with_reducible first | exact HB.out | apply below_alloc | apply pw_below_drewN | apply below_drew1 | refine below_set ?_ GE461.out | refine below_set ?_ GE472.out) | exact HB.out))) : w.heap.size ≤ gb485))
                      have n10_ := Aside0.mk ((by rw [hg]; exact (below_size (by repeat (first | (with_reducible first | exact HB.out | apply below_alloc | apply pw_below_drewN | apply below_drew1 | refine below_set ?_ GE461.out | refine below_set ?_ GE472.out) | exact HB.out))) : w.heap.size ≤ gb485))
                      have n11_ := Aside0.mk ((by rw [hg]; exact Nat.ne_of_lt (blk_lt (g := gb461) (o := .cells #[.int .i64 a0_0, .string a0_1, .slice A0_2 l0_2.length c0_2, .slice A0_3 l0_3.length c0_3] 52 (0, 0)) (by (with_reducible repeat (first | refine blk_drewN ?_ _ | refine blk_drew ?_ | refine blk_alloc ?_ _)); exact BK461.out)) : gb461 ≠ gb485))
                      have n12_ := Aside0.mk ((by rw [hg]; exact Nat.ne_of_gt (blk_lt (g := gb461) (o := .cells #[.int .i64 a0_0, .string a0_1, .slice A0_2 l0_2.length c0_2, .slice A0_3 l0_3.length c0_3] 52 (0, 0)) (by (with_reducible repeat (first | refine blk_drewN ?_ _ | refine blk_drew ?_ | refine blk_alloc ?_ _)); exact BK461.out)) : gb485 ≠ gb461))
                      have n13_ := Aside0.mk ((by rw [hg]; exact Nat.ne_of_lt (blk_lt (g := gb472) (o := .cells #[.int .i64 t464, .string t465, .slice Ao32 t466.length co32, .slice Ao33 t469.length co33] 52 (0, 0)) (by (with_reducible repeat (first | refine blk_drewN ?_ _ | refine blk_drew ?_ | refine blk_alloc ?_ _)); exact BK472.out)) : gb472 ≠ gb485))
                      have n14_ := Aside0.mk ((by rw [hg]; exact Nat.ne_of_gt (blk_lt (g := gb472) (o := .cells #[.int .i64 t464, .string t465, .slice Ao32 t466.length co32, .slice Ao33 t469.length co33] 52 (0, 0)) (by (with_reducible repeat (first | refine blk_drewN ?_ _ | refine blk_drew ?_ | refine blk_alloc ?_ _)); exact BK472.out)) : gb485 ≠ gb472))
                      clear HO468
                      clear HO471
                      clear HO475
                      clear HO480
                      clear HO483
                      clear BK461
                      clear BK472
                      clear HB
                      have HO468 := n0_
                      have HO471 := n1_
                      have HO475 := n2_
                      have HO480 := n3_
                      have HO483 := n4_
                      have BK461 := n5_
                      have BK472 := n6_
                      have HB := n7_
                      have BK485 := n8_
                      have GW485 := n9_
                      have GE485 := n10_
                      have NB461_485 := n11_
                      have NB485_461 := n12_
                      have NB472_485 := n13_
                      have NB485_472 := n14_
                      clear n0_ n1_ n2_ n3_ n4_ n5_ n6_ n7_ n8_ n9_ n10_ n11_ n12_ n13_ n14_
                      clear hb hbox hg
                      refine hK.out _ _ ⟨(blk_cell BK461.out 0).trans rfl, (blk_cell BK461.out 1).trans rfl, (blk_cell BK461.out 2).trans rfl, (blk_cell BK461.out 3).trans rfl⟩ (fun hHeld => ?_)
                      clear hK K
                      refine norm_ (a' := ?_) ?_ ?_
                      rotate_left
                      · show Act.put _ (some 5) _ = _
                        simp only [Act.put, List.setIfInBounds_toArray, List.set_cons_zero, List.set_cons_succ, i64_w, i32_w]
                        rfl
                      exact norm_ (by simp only [putAll, Act.put, List.setIfInBounds_toArray, List.set_cons_zero, List.set_cons_succ]) (hCont (.slice Ao37 t473.length co37, v479, v482, gb485) _ ⟨hHeld, (by (with_reducible repeat (first | apply Kd.R_alloc | apply Kd.R_drewN | apply Kd.R_drew)); exact Kd.R_mono HO468.out (fun _ hk => ⟨hk.1.2, hk.2⟩)), (by (with_reducible repeat (first | apply Kd.R_alloc | apply Kd.R_drewN | apply Kd.R_drew)); exact Kd.R_mono HO471.out (fun _ hk => hk.2)), (by (with_reducible repeat (first | apply Kd.R_alloc | apply Kd.R_drewN | apply Kd.R_drew)); exact Kd.R_mono HO475.out (fun _ hk => ⟨hk.1.2, hk.2⟩)), (by (with_reducible repeat (first | apply Kd.R_alloc | apply Kd.R_drewN | apply Kd.R_drew)); exact Kd.R_mono HO480.out (fun _ hk => ⟨hk.1.2, hk.2⟩)), (by (with_reducible repeat (first | apply Kd.R_alloc | apply Kd.R_drewN | apply Kd.R_drew)); exact Kd.R_mono HO483.out (fun _ hk => hk.2)), (by (with_reducible repeat (first | refine blk_drewN ?_ _ | refine blk_drew ?_ | refine blk_alloc ?_ _)); exact BK461.out), (by (with_reducible repeat (first | refine blk_drewN ?_ _ | refine blk_drew ?_ | refine blk_alloc ?_ _)); exact BK472.out), (by (with_reducible repeat (first | refine blk_drewN ?_ _ | refine blk_drew ?_ | refine blk_alloc ?_ _)); exact BK485.out), GW485.out, GE485.out, NB461_485.out, NB485_461.out, NB472_485.out, NB485_472.out, (by repeat (first | (with_reducible first | exact HB.out | apply below_alloc | apply pw_below_drewN | apply below_drew1 | refine below_set ?_ GE461.out | refine below_set ?_ GE472.out | refine below_set ?_ GE485.out) | exact HB.out))⟩)
                    · skip
                      refine box_step ?hg (N := 5) ?hd (cs := #[.int .i64 0, .string (⟨#[]⟩ : ByteArray), .slice none 0 0, .slice none 0 0]) (t := 52) ?hr ?_; (case hd => rfl); (case hg => rfl); (case hr => first | (go_simp; done) | (go_simp; rfl))
                      intro gb485 hg w37 hbox hb
                      have n0_ := Aside0.mk (Kd.R_below (by (with_reducible repeat (first | apply Kd.R_alloc | apply Kd.R_drewN | apply Kd.R_drew)); exact HO468.out) hb)
                      have n1_ := Aside0.mk (Kd.R_below (by (with_reducible repeat (first | apply Kd.R_alloc | apply Kd.R_drewN | apply Kd.R_drew)); exact HO471.out) hb)
                      have n2_ := Aside0.mk (Kd.R_below (by (with_reducible repeat (first | apply Kd.R_alloc | apply Kd.R_drewN | apply Kd.R_drew)); exact HO475.out) hb)
                      have n3_ := Aside0.mk (blk_below (g := gb461) (o := .cells #[.int .i64 a0_0, .string a0_1, .slice A0_2 l0_2.length c0_2, .slice A0_3 l0_3.length c0_3] 52 (0, 0)) (by (with_reducible repeat (first | refine blk_drewN ?_ _ | refine blk_drew ?_ | refine blk_alloc ?_ _)); exact BK461.out) hb)
                      have n4_ := Aside0.mk (blk_below (g := gb472) (o := .cells #[.int .i64 t464, .string t465, .slice Ao32 t466.length co32, .slice Ao33 t469.length co33] 52 (0, 0)) (by (with_reducible repeat (first | refine blk_drewN ?_ _ | refine blk_drew ?_ | refine blk_alloc ?_ _)); exact BK472.out) hb)
                      have n5_ := Aside0.mk (below_step (by repeat (first | (with_reducible first | exact HB.out | apply below_alloc | apply pw_below_drewN | apply below_drew1 | refine below_set ?_ GE461.out | refine below_set ?_ GE472.out) | exact HB.out)) hb)
                      have n6_ := Aside0.mk (hbox)
                      have n7_ := Aside0.mk ((by rw [hg]; exact (below_size (by repeat (first | (with_reducible first | exact HB.out | apply below_alloc | apply pw_below_drewN | apply below_drew1 | refine below_set ?_ GE461.out | refine below_set ?_ GE472.out) | exact HB.out))) : w.heap.size ≤ gb485))
                      have n8_ := Aside0.mk ((by rw [hg]; exact (below_size (by repeat (first | (with_reducible first | exact HB.out | apply below_alloc | apply pw_below_drewN | apply below_drew1 | refine below_set ?_ GE461.out | refine below_set ?_ GE472.out) | exact HB.out))) : w.heap.size ≤ gb485))
                      have n9_ := Aside0.mk ((by rw [hg]; exact Nat.ne_of_lt (blk_lt (g := gb461) (o := .cells #[.int .i64 a0_0, .string a0_1, .slice A0_2 l0_2.length c0_2, .slice A0_3 l0_3.length c0_3] 52 (0, 0)) (by (with_reducible repeat (first | refine blk_drewN ?_ _ | refine blk_drew ?_ | refine blk_alloc ?_ _)); exact BK461.out)) : gb461 ≠ gb485))
                      have n10_ := Aside0.mk ((by rw [hg]; exact Nat.ne_of_gt (blk_lt (g := gb461) (o := .cells #[.int .i64 a0_0, .string a0_1, .slice A0_2 l0_2.length c0_2, .slice A0_3 l0_3.length c0_3] 52 (0, 0)) (by (with_reducible repeat (first | refine blk_drewN ?_ _ | refine blk_drew ?_ | refine blk_alloc ?_ _)); exact BK461.out)) : gb485 ≠ gb461))
                      have n11_ := Aside0.mk ((by rw [hg]; exact Nat.ne_of_lt (blk_lt (g := gb472) (o := .cells #[.int .i64 t464, .string t465, .slice Ao32 t466.length co32, .slice Ao33 t469.length co33] 52 (0, 0)) (by (with_reducible repeat (first | refine blk_drewN ?_ _ | refine blk_drew ?_ | refine blk_alloc ?_ _)); exact BK472.out)) : gb472 ≠ gb485))
                      have n12_ := Aside0.mk ((by rw [hg]; exact Nat.ne_of_gt (blk_lt (g := gb472) (o := .cells #[.int .i64 t464, .string t465, .slice Ao32 t466.length co32, .slice Ao33 t469.length co33] 52 (0, 0)) (by (with_reducible repeat (first | refine blk_drewN ?_ _ | refine blk_drew ?_ | refine blk_alloc ?_ _)); exact BK472.out)) : gb485 ≠ gb472))
                      clear HO468
                      clear HO471
                      clear HO475
                      clear BK461
                      clear BK472
                      clear HB
                      have HO468 := n0_
                      have HO471 := n1_
                      have HO475 := n2_
                      have BK461 := n3_
                      have BK472 := n4_
                      have HB := n5_
                      have BK485 := n6_
                      have GW485 := n7_
                      have GE485 := n8_
                      have NB461_485 := n9_
                      have NB485_461 := n10_
                      have NB472_485 := n11_
                      have NB485_472 := n12_
                      clear n0_ n1_ n2_ n3_ n4_ n5_ n6_ n7_ n8_ n9_ n10_ n11_ n12_
                      clear hb hbox hg
                      obtain ⟨Ao38, co38, eo38⟩ := Kd.R_slice HO475.out
                      (first | subst eo38 | (injection eo38 with f1_ f2_ f3_; have f4_ := f1_.symm; have f5_ := f3_.symm; clear f1_ f2_ f3_; subst f4_; subst f5_))
                      refine hK.out _ _ ⟨(blk_cell BK461.out 0).trans rfl, (blk_cell BK461.out 1).trans rfl, (blk_cell BK461.out 2).trans rfl, (blk_cell BK461.out 3).trans rfl⟩ (fun hHeld => ?_)
                      clear hK K
                      refine norm_ (a' := ?_) ?_ ?_
                      rotate_left
                      · show Act.put _ (some 5) _ = _
                        simp only [Act.put, List.setIfInBounds_toArray, List.set_cons_zero, List.set_cons_succ, i64_w, i32_w]
                        rfl
                      refine one_ (i := 4) (N := some 19) #[true, true, true, true, true, false, false, false, true, false, false] rfl rfl (one_of HT_.out (by kernel_rfl)) (by decide) (fun K hK => ?_)
                      refine goes_ Try.func44 (by kernel_rfl) rfl #[.int .i64 a0_0, .slice Ao38 t473.length co38] (by rfl) rfl rfl (by (try simp only [List.map_toArray, List.map_cons, List.map_nil]); first | done | rfl | (simp only [List.length_drop, List.length_take]; rfl)) ?_
                      with_reducible refine (value_Of.calls a0_0 _ _ t473 t476 t477 t478 t481 t484 _ ?side1 ?side2 A7.out).mono ?_
                      (case side1 => repeat (first | exact (Kd.R_reads' HO475.out).2.2 | (with_reducible refine Kd.C_alloc ?_ _) | (with_reducible refine Kd.C_drewN ?_ _) | (with_reducible refine Kd.C_drew ?_)))
                      (case side2 => exact (Kd.R_reads' HO475.out).2.1)
                      rintro e w39 ⟨v479, v482, rfl, ho0, ho1, hb⟩
                      refine ⟨_, rfl, ?_⟩
                      have n0_ := Aside0.mk (Kd.R_elder' (by (with_reducible repeat (first | apply Kd.R_alloc | apply Kd.R_drewN | apply Kd.R_drew)); exact HO468.out) (Kd.R_base ho0) hb)
                      have n1_ := Aside0.mk (Kd.R_elder' (by (with_reducible repeat (first | apply Kd.R_alloc | apply Kd.R_drewN | apply Kd.R_drew)); exact HO471.out) (Kd.R_base ho1) hb)
                      have n2_ := Aside0.mk (Kd.R_elder' (by (with_reducible repeat (first | apply Kd.R_alloc | apply Kd.R_drewN | apply Kd.R_drew)); exact HO475.out) (Kd.R_base ho0) hb)
                      have n3_ := Aside0.mk (Kd.R_lower (Kd.R_new' (Kd.R_new' ho0 (Kd.R_lt (by (with_reducible repeat (first | apply Kd.R_alloc | apply Kd.R_drewN | apply Kd.R_drew)); exact HO468.out))) (Kd.R_lt (by (with_reducible repeat (first | apply Kd.R_alloc | apply Kd.R_drewN | apply Kd.R_drew)); exact HO475.out))) (below_size (by repeat (first | (with_reducible first | exact HB.out | apply below_alloc | apply pw_below_drewN | apply below_drew1 | refine below_set ?_ GE461.out | refine below_set ?_ GE472.out | refine below_set ?_ GE485.out) | exact HB.out))))
                      have n4_ := Aside0.mk (Kd.R_lower (Kd.R_new' ho1 (Kd.R_lt (by (with_reducible repeat (first | apply Kd.R_alloc | apply Kd.R_drewN | apply Kd.R_drew)); exact HO471.out))) (below_size (by repeat (first | (with_reducible first | exact HB.out | apply below_alloc | apply pw_below_drewN | apply below_drew1 | refine below_set ?_ GE461.out | refine below_set ?_ GE472.out | refine below_set ?_ GE485.out) | exact HB.out))))
                      have n5_ := Aside0.mk (blk_below (g := gb461) (o := .cells #[.int .i64 a0_0, .string a0_1, .slice A0_2 l0_2.length c0_2, .slice A0_3 l0_3.length c0_3] 52 (0, 0)) (by (with_reducible repeat (first | refine blk_drewN ?_ _ | refine blk_drew ?_ | refine blk_alloc ?_ _)); exact BK461.out) hb)
                      have n6_ := Aside0.mk (blk_below (g := gb472) (o := .cells #[.int .i64 t464, .string t465, .slice Ao32 t466.length co32, .slice Ao33 t469.length co33] 52 (0, 0)) (by (with_reducible repeat (first | refine blk_drewN ?_ _ | refine blk_drew ?_ | refine blk_alloc ?_ _)); exact BK472.out) hb)
                      have n7_ := Aside0.mk (blk_below (g := gb485) (o := .cells #[.int .i64 0, .string (⟨#[]⟩ : ByteArray), .slice none 0 0, .slice none 0 0] 52 (0, 0)) (by (with_reducible repeat (first | refine blk_drewN ?_ _ | refine blk_drew ?_ | refine blk_alloc ?_ _)); exact BK485.out) hb)
                      have n8_ := Aside0.mk (below_step (by repeat (first | (with_reducible first | exact HB.out | apply below_alloc | apply pw_below_drewN | apply below_drew1 | refine below_set ?_ GE461.out | refine below_set ?_ GE472.out | refine below_set ?_ GE485.out) | exact HB.out)) hb)
                      clear HO468
                      clear HO471
                      clear HO475
                      clear BK461
                      clear BK472
                      clear BK485
                      clear HB
                      have HO468 := n0_
                      have HO471 := n1_
                      have HO475 := n2_
                      have HO480 := n3_
                      have HO483 := n4_
                      have BK461 := n5_
                      have BK472 := n6_
                      have BK485 := n7_
                      have HB := n8_
                      clear n0_ n1_ n2_ n3_ n4_ n5_ n6_ n7_ n8_
                      (try clear hb)
                      (try clear hb2)
                      (try clear hk)
                      (try clear hi)
                      (try clear ho0)
                      (try clear ho1)
                      refine hK.out _ _ ⟨(blk_cell BK461.out 0).trans rfl, (blk_cell BK461.out 1).trans rfl, (blk_cell BK461.out 2).trans rfl, (blk_cell BK461.out 3).trans rfl⟩ (fun hHeld => ?_)
                      clear hK K
                      refine norm_ (a' := ?_) ?_ ?_
                      rotate_left
                      · show Act.put _ (some 19) _ = _
                        simp only [Act.put, List.setIfInBounds_toArray, List.set_cons_zero, List.set_cons_succ, i64_w, i32_w]
                        rfl
                      refine pure_ (i := 5) (N := some 14) (v := ?_) (a' := ?_) #[true, true, true, true, true, true, false, false, true, false, false] rfl rfl (any_of HT_.out (by kernel_rfl)) (fun _ _ _ h => h) (Or.inl ⟨by rfl, ?_⟩) ?_ ?_
                      rotate_left
                      · intro w'
                        go_simp
                        with_reducible rfl
                      rotate_left
                      · simp only [Act.put, List.setIfInBounds_toArray, List.set_cons_zero, List.set_cons_succ, i64_w, i32_w]
                        rfl
                      refine pure_ (i := 6) (N := some 20) (v := ?_) (a' := ?_) #[true, true, true, true, true, true, true, false, true, false, false] rfl rfl (any_of HT_.out (by kernel_rfl)) (fun _ _ _ h => h) (Or.inl ⟨by rfl, ?_⟩) ?_ ?_
                      rotate_left
                      · intro w'
                        go_simp
                        with_reducible rfl
                      rotate_left
                      · simp only [Act.put, List.setIfInBounds_toArray, List.set_cons_zero, List.set_cons_succ, i64_w, i32_w]
                        rfl
                      refine pure_ (i := 7) (N := some 21) (v := ?_) (a' := ?_) #[true, true, true, true, true, true, true, true, true, false, false] rfl rfl (any_of HT_.out (by kernel_rfl)) (fun _ _ _ h => h) (Or.inl ⟨by rfl, ?_⟩) ?_ ?_
                      rotate_left
                      · intro w'
                        go_simp
                        with_reducible rfl
                      rotate_left
                      · simp only [Act.put, List.setIfInBounds_toArray, List.set_cons_zero, List.set_cons_succ, i64_w, i32_w]
                        rfl
                      exact norm_ (by simp only [putAll, Act.put, List.setIfInBounds_toArray, List.set_cons_zero, List.set_cons_succ]) (hCont (.slice Ao38 t473.length co38, v479, v482, gb485) _ ⟨hHeld, (by (with_reducible repeat (first | apply Kd.R_alloc | apply Kd.R_drewN | apply Kd.R_drew)); exact Kd.R_mono HO468.out (fun _ hk => ⟨hk.1.2, hk.2⟩)), (by (with_reducible repeat (first | apply Kd.R_alloc | apply Kd.R_drewN | apply Kd.R_drew)); exact Kd.R_mono HO471.out (fun _ hk => hk.2)), (by (with_reducible repeat (first | apply Kd.R_alloc | apply Kd.R_drewN | apply Kd.R_drew)); exact Kd.R_mono HO475.out (fun _ hk => ⟨hk.1.2, hk.2⟩)), (by (with_reducible repeat (first | apply Kd.R_alloc | apply Kd.R_drewN | apply Kd.R_drew)); exact Kd.R_mono HO480.out (fun _ hk => ⟨hk.1.2, hk.2⟩)), (by (with_reducible repeat (first | apply Kd.R_alloc | apply Kd.R_drewN | apply Kd.R_drew)); exact Kd.R_mono HO483.out (fun _ hk => hk.2)), (by (with_reducible repeat (first | refine blk_drewN ?_ _ | refine blk_drew ?_ | refine blk_alloc ?_ _)); exact BK461.out), (by (with_reducible repeat (first | refine blk_drewN ?_ _ | refine blk_drew ?_ | refine blk_alloc ?_ _)); exact BK472.out), (by (with_reducible repeat (first | refine blk_drewN ?_ _ | refine blk_drew ?_ | refine blk_alloc ?_ _)); exact BK485.out), GW485.out, GE485.out, NB461_485.out, NB485_461.out, NB472_485.out, NB485_472.out, (by repeat (first | (with_reducible first | exact HB.out | apply below_alloc | apply pw_below_drewN | apply below_drew1 | refine below_set ?_ GE461.out | refine below_set ?_ GE472.out | refine below_set ?_ GE485.out) | exact HB.out))⟩)
                  · skip
                    refine box_step ?hg (N := 5) ?hd (cs := #[.int .i64 0, .string (⟨#[]⟩ : ByteArray), .slice none 0 0, .slice none 0 0]) (t := 52) ?hr ?_; (case hd => rfl); (case hg => rfl); (case hr => first | (go_simp; done) | (go_simp; rfl))
                    intro gb485 hg w36 hbox hb
                    have n0_ := Aside0.mk (Kd.R_below (by (with_reducible repeat (first | apply Kd.R_alloc | apply Kd.R_drewN | apply Kd.R_drew)); exact HO468.out) hb)
                    have n1_ := Aside0.mk (Kd.R_below (by (with_reducible repeat (first | apply Kd.R_alloc | apply Kd.R_drewN | apply Kd.R_drew)); exact HO471.out) hb)
                    have n2_ := Aside0.mk (blk_below (g := gb461) (o := .cells #[.int .i64 a0_0, .string a0_1, .slice A0_2 l0_2.length c0_2, .slice A0_3 l0_3.length c0_3] 52 (0, 0)) (by (with_reducible repeat (first | refine blk_drewN ?_ _ | refine blk_drew ?_ | refine blk_alloc ?_ _)); exact BK461.out) hb)
                    have n3_ := Aside0.mk (blk_below (g := gb472) (o := .cells #[.int .i64 t464, .string t465, .slice Ao32 t466.length co32, .slice Ao33 t469.length co33] 52 (0, 0)) (by (with_reducible repeat (first | refine blk_drewN ?_ _ | refine blk_drew ?_ | refine blk_alloc ?_ _)); exact BK472.out) hb)
                    have n4_ := Aside0.mk (below_step (by repeat (first | (with_reducible first | exact HB.out | apply below_alloc | apply pw_below_drewN | apply below_drew1 | refine below_set ?_ GE461.out | refine below_set ?_ GE472.out) | exact HB.out)) hb)
                    have n5_ := Aside0.mk (hbox)
                    have n6_ := Aside0.mk ((by rw [hg]; exact (below_size (by repeat (first | (with_reducible first | exact HB.out | apply below_alloc | apply pw_below_drewN | apply below_drew1 | refine below_set ?_ GE461.out | refine below_set ?_ GE472.out) | exact HB.out))) : w.heap.size ≤ gb485))
                    have n7_ := Aside0.mk ((by rw [hg]; exact (below_size (by repeat (first | (with_reducible first | exact HB.out | apply below_alloc | apply pw_below_drewN | apply below_drew1 | refine below_set ?_ GE461.out | refine below_set ?_ GE472.out) | exact HB.out))) : w.heap.size ≤ gb485))
                    have n8_ := Aside0.mk ((by rw [hg]; exact Nat.ne_of_lt (blk_lt (g := gb461) (o := .cells #[.int .i64 a0_0, .string a0_1, .slice A0_2 l0_2.length c0_2, .slice A0_3 l0_3.length c0_3] 52 (0, 0)) (by (with_reducible repeat (first | refine blk_drewN ?_ _ | refine blk_drew ?_ | refine blk_alloc ?_ _)); exact BK461.out)) : gb461 ≠ gb485))
                    have n9_ := Aside0.mk ((by rw [hg]; exact Nat.ne_of_gt (blk_lt (g := gb461) (o := .cells #[.int .i64 a0_0, .string a0_1, .slice A0_2 l0_2.length c0_2, .slice A0_3 l0_3.length c0_3] 52 (0, 0)) (by (with_reducible repeat (first | refine blk_drewN ?_ _ | refine blk_drew ?_ | refine blk_alloc ?_ _)); exact BK461.out)) : gb485 ≠ gb461))
                    have n10_ := Aside0.mk ((by rw [hg]; exact Nat.ne_of_lt (blk_lt (g := gb472) (o := .cells #[.int .i64 t464, .string t465, .slice Ao32 t466.length co32, .slice Ao33 t469.length co33] 52 (0, 0)) (by (with_reducible repeat (first | refine blk_drewN ?_ _ | refine blk_drew ?_ | refine blk_alloc ?_ _)); exact BK472.out)) : gb472 ≠ gb485))
                    have n11_ := Aside0.mk ((by rw [hg]; exact Nat.ne_of_gt (blk_lt (g := gb472) (o := .cells #[.int .i64 t464, .string t465, .slice Ao32 t466.length co32, .slice Ao33 t469.length co33] 52 (0, 0)) (by (with_reducible repeat (first | refine blk_drewN ?_ _ | refine blk_drew ?_ | refine blk_alloc ?_ _)); exact BK472.out)) : gb485 ≠ gb472))
                    clear HO468
                    clear HO471
                    clear BK461
                    clear BK472
                    clear HB
                    have HO468 := n0_
                    have HO471 := n1_
                    have BK461 := n2_
                    have BK472 := n3_
                    have HB := n4_
                    have BK485 := n5_
                    have GW485 := n6_
                    have GE485 := n7_
                    have NB461_485 := n8_
                    have NB485_461 := n9_
                    have NB472_485 := n10_
                    have NB485_472 := n11_
                    clear n0_ n1_ n2_ n3_ n4_ n5_ n6_ n7_ n8_ n9_ n10_ n11_
                    clear hb hbox hg
                    refine hK.out _ _ ⟨(blk_cell BK461.out 0).trans rfl, (blk_cell BK461.out 1).trans rfl, (blk_cell BK461.out 2).trans rfl, (blk_cell BK461.out 3).trans rfl⟩ (fun hHeld => ?_)
                    clear hK K
                    refine norm_ (a' := ?_) ?_ ?_
                    rotate_left
                    · show Act.put _ (some 5) _ = _
                      simp only [Act.put, List.setIfInBounds_toArray, List.set_cons_zero, List.set_cons_succ, i64_w, i32_w]
                      rfl
                    refine one_ (i := 3) (N := some 18) #[true, true, true, true, false, false, false, false, true, false, false] rfl rfl (one_of HT_.out (by kernel_rfl)) (by decide) (fun K hK => ?_)
                    refine goes_ Try.func48 (by kernel_rfl) rfl #[.agg #[.int .i64 a0_0, .string a0_1, .slice A0_2 l0_2.length c0_2, .slice A0_3 l0_3.length c0_3]] (by rfl) rfl rfl (by (try simp only [List.map_toArray, List.map_cons, List.map_nil]); first | done | rfl | (simp only [List.length_drop, List.length_take]; rfl)) ?_
                    with_reducible refine (value_Texts.calls k a0_0 a0_1 _ _ l0_2 _ _ l0_3 t473 _ ?side1 ?side2 ?side3 ?side4 A6.out).mono ?_
                    (case side1 => repeat (first | exact (Kd.C_below HR0_2.out HB.out) | (with_reducible refine Kd.C_alloc ?_ _) | (with_reducible refine Kd.C_drewN ?_ _) | (with_reducible refine Kd.C_drew ?_)))
                    (case side2 => exact HC0_2.out)
                    (case side3 => repeat (first | exact (Kd.C_below HR0_3.out HB.out) | (with_reducible refine Kd.C_alloc ?_ _) | (with_reducible refine Kd.C_drewN ?_ _) | (with_reducible refine Kd.C_drew ?_)))
                    (case side4 => exact HC0_3.out)
                    rintro e w37 ⟨v474, rfl, ho0, hb⟩
                    refine ⟨_, rfl, ?_⟩
                    have n0_ := Aside0.mk (Kd.R_elder' (by (with_reducible repeat (first | apply Kd.R_alloc | apply Kd.R_drewN | apply Kd.R_drew)); exact HO468.out) (Kd.R_base ho0) hb)
                    have n1_ := Aside0.mk (Kd.R_below (by (with_reducible repeat (first | apply Kd.R_alloc | apply Kd.R_drewN | apply Kd.R_drew)); exact HO471.out) hb)
                    have n2_ := Aside0.mk (Kd.R_lower (Kd.R_new' ho0 (Kd.R_lt (by (with_reducible repeat (first | apply Kd.R_alloc | apply Kd.R_drewN | apply Kd.R_drew)); exact HO468.out))) (below_size (by repeat (first | (with_reducible first | exact HB.out | apply below_alloc | apply pw_below_drewN | apply below_drew1 | refine below_set ?_ GE461.out | refine below_set ?_ GE472.out | refine below_set ?_ GE485.out) | exact HB.out))))
                    have n3_ := Aside0.mk (blk_below (g := gb461) (o := .cells #[.int .i64 a0_0, .string a0_1, .slice A0_2 l0_2.length c0_2, .slice A0_3 l0_3.length c0_3] 52 (0, 0)) (by (with_reducible repeat (first | refine blk_drewN ?_ _ | refine blk_drew ?_ | refine blk_alloc ?_ _)); exact BK461.out) hb)
                    have n4_ := Aside0.mk (blk_below (g := gb472) (o := .cells #[.int .i64 t464, .string t465, .slice Ao32 t466.length co32, .slice Ao33 t469.length co33] 52 (0, 0)) (by (with_reducible repeat (first | refine blk_drewN ?_ _ | refine blk_drew ?_ | refine blk_alloc ?_ _)); exact BK472.out) hb)
                    have n5_ := Aside0.mk (blk_below (g := gb485) (o := .cells #[.int .i64 0, .string (⟨#[]⟩ : ByteArray), .slice none 0 0, .slice none 0 0] 52 (0, 0)) (by (with_reducible repeat (first | refine blk_drewN ?_ _ | refine blk_drew ?_ | refine blk_alloc ?_ _)); exact BK485.out) hb)
                    have n6_ := Aside0.mk (below_step (by repeat (first | (with_reducible first | exact HB.out | apply below_alloc | apply pw_below_drewN | apply below_drew1 | refine below_set ?_ GE461.out | refine below_set ?_ GE472.out | refine below_set ?_ GE485.out) | exact HB.out)) hb)
                    clear HO468
                    clear HO471
                    clear BK461
                    clear BK472
                    clear BK485
                    clear HB
                    have HO468 := n0_
                    have HO471 := n1_
                    have HO475 := n2_
                    have BK461 := n3_
                    have BK472 := n4_
                    have BK485 := n5_
                    have HB := n6_
                    clear n0_ n1_ n2_ n3_ n4_ n5_ n6_
                    (try clear hb)
                    (try clear hb2)
                    (try clear hk)
                    (try clear hi)
                    (try clear ho0)
                    obtain ⟨Ao38, co38, eo38⟩ := Kd.R_slice HO475.out
                    (first | subst eo38 | (injection eo38 with f1_ f2_ f3_; have f4_ := f1_.symm; have f5_ := f3_.symm; clear f1_ f2_ f3_; subst f4_; subst f5_))
                    refine hK.out _ _ ⟨(blk_cell BK461.out 0).trans rfl, (blk_cell BK461.out 1).trans rfl, (blk_cell BK461.out 2).trans rfl, (blk_cell BK461.out 3).trans rfl⟩ (fun hHeld => ?_)
                    clear hK K
                    refine norm_ (a' := ?_) ?_ ?_
                    rotate_left
                    · show Act.put _ (some 18) _ = _
                      simp only [Act.put, List.setIfInBounds_toArray, List.set_cons_zero, List.set_cons_succ, i64_w, i32_w]
                      rfl
                    refine one_ (i := 4) (N := some 19) #[true, true, true, true, true, false, false, false, true, false, false] rfl rfl (one_of HT_.out (by kernel_rfl)) (by decide) (fun K hK => ?_)
                    refine goes_ Try.func44 (by kernel_rfl) rfl #[.int .i64 a0_0, .slice Ao38 t473.length co38] (by rfl) rfl rfl (by (try simp only [List.map_toArray, List.map_cons, List.map_nil]); first | done | rfl | (simp only [List.length_drop, List.length_take]; rfl)) ?_
                    with_reducible refine (value_Of.calls a0_0 _ _ t473 t476 t477 t478 t481 t484 _ ?side1 ?side2 A7.out).mono ?_
                    (case side1 => repeat (first | exact (Kd.R_reads' HO475.out).2.2 | (with_reducible refine Kd.C_alloc ?_ _) | (with_reducible refine Kd.C_drewN ?_ _) | (with_reducible refine Kd.C_drew ?_)))
                    (case side2 => exact (Kd.R_reads' HO475.out).2.1)
                    rintro e w39 ⟨v479, v482, rfl, ho0, ho1, hb⟩
                    refine ⟨_, rfl, ?_⟩
                    have n0_ := Aside0.mk (Kd.R_elder' (by (with_reducible repeat (first | apply Kd.R_alloc | apply Kd.R_drewN | apply Kd.R_drew)); exact HO468.out) (Kd.R_base ho0) hb)
                    have n1_ := Aside0.mk (Kd.R_elder' (by (with_reducible repeat (first | apply Kd.R_alloc | apply Kd.R_drewN | apply Kd.R_drew)); exact HO471.out) (Kd.R_base ho1) hb)
                    have n2_ := Aside0.mk (Kd.R_elder' (by (with_reducible repeat (first | apply Kd.R_alloc | apply Kd.R_drewN | apply Kd.R_drew)); exact HO475.out) (Kd.R_base ho0) hb)
                    have n3_ := Aside0.mk (Kd.R_lower (Kd.R_new' (Kd.R_new' ho0 (Kd.R_lt (by (with_reducible repeat (first | apply Kd.R_alloc | apply Kd.R_drewN | apply Kd.R_drew)); exact HO468.out))) (Kd.R_lt (by (with_reducible repeat (first | apply Kd.R_alloc | apply Kd.R_drewN | apply Kd.R_drew)); exact HO475.out))) (below_size (by repeat (first | (with_reducible first | exact HB.out | apply below_alloc | apply pw_below_drewN | apply below_drew1 | refine below_set ?_ GE461.out | refine below_set ?_ GE472.out | refine below_set ?_ GE485.out) | exact HB.out))))
                    have n4_ := Aside0.mk (Kd.R_lower (Kd.R_new' ho1 (Kd.R_lt (by (with_reducible repeat (first | apply Kd.R_alloc | apply Kd.R_drewN | apply Kd.R_drew)); exact HO471.out))) (below_size (by repeat (first | (with_reducible first | exact HB.out | apply below_alloc | apply pw_below_drewN | apply below_drew1 | refine below_set ?_ GE461.out | refine below_set ?_ GE472.out | refine below_set ?_ GE485.out) | exact HB.out))))
                    have n5_ := Aside0.mk (blk_below (g := gb461) (o := .cells #[.int .i64 a0_0, .string a0_1, .slice A0_2 l0_2.length c0_2, .slice A0_3 l0_3.length c0_3] 52 (0, 0)) (by (with_reducible repeat (first | refine blk_drewN ?_ _ | refine blk_drew ?_ | refine blk_alloc ?_ _)); exact BK461.out) hb)
                    have n6_ := Aside0.mk (blk_below (g := gb472) (o := .cells #[.int .i64 t464, .string t465, .slice Ao32 t466.length co32, .slice Ao33 t469.length co33] 52 (0, 0)) (by (with_reducible repeat (first | refine blk_drewN ?_ _ | refine blk_drew ?_ | refine blk_alloc ?_ _)); exact BK472.out) hb)
                    have n7_ := Aside0.mk (blk_below (g := gb485) (o := .cells #[.int .i64 0, .string (⟨#[]⟩ : ByteArray), .slice none 0 0, .slice none 0 0] 52 (0, 0)) (by (with_reducible repeat (first | refine blk_drewN ?_ _ | refine blk_drew ?_ | refine blk_alloc ?_ _)); exact BK485.out) hb)
                    have n8_ := Aside0.mk (below_step (by repeat (first | (with_reducible first | exact HB.out | apply below_alloc | apply pw_below_drewN | apply below_drew1 | refine below_set ?_ GE461.out | refine below_set ?_ GE472.out | refine below_set ?_ GE485.out) | exact HB.out)) hb)
                    clear HO468
                    clear HO471
                    clear HO475
                    clear BK461
                    clear BK472
                    clear BK485
                    clear HB
                    have HO468 := n0_
                    have HO471 := n1_
                    have HO475 := n2_
                    have HO480 := n3_
                    have HO483 := n4_
                    have BK461 := n5_
                    have BK472 := n6_
                    have BK485 := n7_
                    have HB := n8_
                    clear n0_ n1_ n2_ n3_ n4_ n5_ n6_ n7_ n8_
                    (try clear hb)
                    (try clear hb2)
                    (try clear hk)
                    (try clear hi)
                    (try clear ho0)
                    (try clear ho1)
                    refine hK.out _ _ ⟨(blk_cell BK461.out 0).trans rfl, (blk_cell BK461.out 1).trans rfl, (blk_cell BK461.out 2).trans rfl, (blk_cell BK461.out 3).trans rfl⟩ (fun hHeld => ?_)
                    clear hK K
                    refine norm_ (a' := ?_) ?_ ?_
                    rotate_left
                    · show Act.put _ (some 19) _ = _
                      simp only [Act.put, List.setIfInBounds_toArray, List.set_cons_zero, List.set_cons_succ, i64_w, i32_w]
                      rfl
                    refine pure_ (i := 5) (N := some 14) (v := ?_) (a' := ?_) #[true, true, true, true, true, true, false, false, true, false, false] rfl rfl (any_of HT_.out (by kernel_rfl)) (fun _ _ _ h => h) (Or.inl ⟨by rfl, ?_⟩) ?_ ?_
                    rotate_left
                    · intro w'
                      go_simp
                      with_reducible rfl
                    rotate_left
                    · simp only [Act.put, List.setIfInBounds_toArray, List.set_cons_zero, List.set_cons_succ, i64_w, i32_w]
                      rfl
                    refine pure_ (i := 6) (N := some 20) (v := ?_) (a' := ?_) #[true, true, true, true, true, true, true, false, true, false, false] rfl rfl (any_of HT_.out (by kernel_rfl)) (fun _ _ _ h => h) (Or.inl ⟨by rfl, ?_⟩) ?_ ?_
                    rotate_left
                    · intro w'
                      go_simp
                      with_reducible rfl
                    rotate_left
                    · simp only [Act.put, List.setIfInBounds_toArray, List.set_cons_zero, List.set_cons_succ, i64_w, i32_w]
                      rfl
                    refine pure_ (i := 7) (N := some 21) (v := ?_) (a' := ?_) #[true, true, true, true, true, true, true, true, true, false, false] rfl rfl (any_of HT_.out (by kernel_rfl)) (fun _ _ _ h => h) (Or.inl ⟨by rfl, ?_⟩) ?_ ?_
                    rotate_left
                    · intro w'
                      go_simp
                      with_reducible rfl
                    rotate_left
                    · simp only [Act.put, List.setIfInBounds_toArray, List.set_cons_zero, List.set_cons_succ, i64_w, i32_w]
                      rfl
                    exact norm_ (by simp only [putAll, Act.put, List.setIfInBounds_toArray, List.set_cons_zero, List.set_cons_succ]) (hCont (.slice Ao38 t473.length co38, v479, v482, gb485) _ ⟨hHeld, (by (with_reducible repeat (first | apply Kd.R_alloc | apply Kd.R_drewN | apply Kd.R_drew)); exact Kd.R_mono HO468.out (fun _ hk => ⟨hk.1.2, hk.2⟩)), (by (with_reducible repeat (first | apply Kd.R_alloc | apply Kd.R_drewN | apply Kd.R_drew)); exact Kd.R_mono HO471.out (fun _ hk => hk.2)), (by (with_reducible repeat (first | apply Kd.R_alloc | apply Kd.R_drewN | apply Kd.R_drew)); exact Kd.R_mono HO475.out (fun _ hk => ⟨hk.1.2, hk.2⟩)), (by (with_reducible repeat (first | apply Kd.R_alloc | apply Kd.R_drewN | apply Kd.R_drew)); exact Kd.R_mono HO480.out (fun _ hk => ⟨hk.1.2, hk.2⟩)), (by (with_reducible repeat (first | apply Kd.R_alloc | apply Kd.R_drewN | apply Kd.R_drew)); exact Kd.R_mono HO483.out (fun _ hk => hk.2)), (by (with_reducible repeat (first | refine blk_drewN ?_ _ | refine blk_drew ?_ | refine blk_alloc ?_ _)); exact BK461.out), (by (with_reducible repeat (first | refine blk_drewN ?_ _ | refine blk_drew ?_ | refine blk_alloc ?_ _)); exact BK472.out), (by (with_reducible repeat (first | refine blk_drewN ?_ _ | refine blk_drew ?_ | refine blk_alloc ?_ _)); exact BK485.out), GW485.out, GE485.out, NB461_485.out, NB485_461.out, NB472_485.out, NB485_472.out, (by repeat (first | (with_reducible first | exact HB.out | apply below_alloc | apply pw_below_drewN | apply below_drew1 | refine below_set ?_ GE461.out | refine below_set ?_ GE472.out | refine below_set ?_ GE485.out) | exact HB.out))⟩)
                rintro ⟨v474, v479, v482, gb485⟩ w40 ⟨hS_, h0_, h1_, h2_, h3_, h4_, h5_, h6_, h7_, h8_, h9_, h10_, h11_, h12_, h13_, h14_⟩
                have n0_ : Aside0 (Kd.R Kd.string 9 w40 w.heap.size (fun k_ => some k_ ≠ (v474 : Value).ownBlock ∧ some k_ ≠ (v479 : Value).ownBlock) (.slice Ao32 t466.length co32) t466) := ⟨h0_⟩
                have n1_ : Aside0 (Kd.R k76 76 w40 w.heap.size (fun k_ => some k_ ≠ (v482 : Value).ownBlock) (.slice Ao33 t469.length co33) t469) := ⟨h1_⟩
                have n2_ : Aside0 (Kd.R Kd.string 9 w40 w.heap.size (fun k_ => some k_ ≠ (.slice Ao32 t466.length co32 : Value).ownBlock ∧ some k_ ≠ (v479 : Value).ownBlock) v474 t473) := ⟨h2_⟩
                have n3_ : Aside0 (Kd.R Kd.string 9 w40 w.heap.size (fun k_ => some k_ ≠ (.slice Ao32 t466.length co32 : Value).ownBlock ∧ some k_ ≠ (v474 : Value).ownBlock) v479 t478) := ⟨h3_⟩
                have n4_ : Aside0 (Kd.R k76 76 w40 w.heap.size (fun k_ => some k_ ≠ (.slice Ao33 t469.length co33 : Value).ownBlock) v482 t481) := ⟨h4_⟩
                have n5_ : Aside0 (w40.heap[gb461]? = some (.cells #[.int .i64 a0_0, .string a0_1, .slice A0_2 l0_2.length c0_2, .slice A0_3 l0_3.length c0_3] 52 (0, 0))) := ⟨h5_⟩
                have n6_ : Aside0 (w40.heap[gb472]? = some (.cells #[.int .i64 t464, .string t465, .slice Ao32 t466.length co32, .slice Ao33 t469.length co33] 52 (0, 0))) := ⟨h6_⟩
                have n7_ : Aside0 (w40.heap[gb485]? = some (.cells #[.int .i64 0, .string (⟨#[]⟩ : ByteArray), .slice none 0 0, .slice none 0 0] 52 (0, 0))) := ⟨h7_⟩
                have n8_ : Aside0 (w.heap.size ≤ gb485) := ⟨h8_⟩
                have n9_ : Aside0 (w.heap.size ≤ gb485) := ⟨h9_⟩
                have n10_ : Aside0 (gb461 ≠ gb485) := ⟨h10_⟩
                have n11_ : Aside0 (gb485 ≠ gb461) := ⟨h11_⟩
                have n12_ : Aside0 (gb472 ≠ gb485) := ⟨h12_⟩
                have n13_ : Aside0 (gb485 ≠ gb472) := ⟨h13_⟩
                have n14_ : Aside0 (Below w.heap.size w w40) := ⟨h14_⟩
                clear HO468
                clear HO471
                clear BK461
                clear BK472
                clear HB
                clear h0_ h1_ h2_ h3_ h4_ h5_ h6_ h7_ h8_ h9_ h10_ h11_ h12_ h13_ h14_
                have HO468 := n0_
                have HO471 := n1_
                have HO475 := n2_
                have HO480 := n3_
                have HO483 := n4_
                have BK461 := n5_
                have BK472 := n6_
                have BK485 := n7_
                have GW485 := n8_
                have GE485 := n9_
                have NB461_485 := n10_
                have NB485_461 := n11_
                have NB472_485 := n12_
                have NB485_472 := n13_
                have HB := n14_
                clear n0_ n1_ n2_ n3_ n4_ n5_ n6_ n7_ n8_ n9_ n10_ n11_ n12_ n13_ n14_
                have hHeld : w40.cell? ⟨gb461, 0, none⟩ = some (.int .i64 a0_0) ∧ w40.cell? ⟨gb461, 1, none⟩ = some (.string a0_1) ∧ w40.cell? ⟨gb461, 2, none⟩ = some (.slice A0_2 l0_2.length c0_2) ∧ w40.cell? ⟨gb461, 3, none⟩ = some (.slice A0_3 l0_3.length c0_3) := hS_
                obtain ⟨Ao43, co43, eo43⟩ := Kd.R_slice HO480.out
                (first | subst eo43 | (injection eo43 with f1_ f2_ f3_; have f4_ := f1_.symm; have f5_ := f3_.symm; clear f1_ f2_ f3_; subst f4_; subst f5_))
                obtain ⟨Ao45, co45, eo45⟩ := Kd.R_slice HO483.out
                (first | subst eo45 | (injection eo45 with f1_ f2_ f3_; have f4_ := f1_.symm; have f5_ := f3_.symm; clear f1_ f2_ f3_; subst f4_; subst f5_))
                refine norm_ (a' := ?_) ?_ ?_
                rotate_left
                · simp only [putAll, Act.put, List.setIfInBounds_toArray, List.set_cons_zero, List.set_cons_succ]
                  rfl
                refine one_ (i := 9) (N := none) #[true, true, true, true, true, true, true, true, true, true, false] rfl rfl (one_of HT_.out (by kernel_rfl)) (by decide) (fun K hK => ?_)
                have hs41 : w40.cell? ⟨gb485, 0, none⟩ = some (.int .i64 0) := (blk_cell BK485.out 0).trans rfl
                have hfs41 := blk_frozen BK485.out 0
                have hns41_0 := NB461_485.out
                have hns41_1 := NB472_485.out
                have hms41_0 := NB485_461.out
                have hms41_1 := NB485_472.out
                have hs42 : w40.cell? ⟨gb485, 1, none⟩ = some (.string (⟨#[]⟩ : ByteArray)) := (blk_cell BK485.out 1).trans rfl
                have hfs42 := blk_frozen BK485.out 1
                have hns42_0 := NB461_485.out
                have hns42_1 := NB472_485.out
                have hms42_0 := NB485_461.out
                have hms42_1 := NB485_472.out
                have hs44 : w40.cell? ⟨gb485, 2, none⟩ = some (.slice none 0 0) := (blk_cell BK485.out 2).trans rfl
                have hfs44 := blk_frozen BK485.out 2
                have hns44_0 := NB461_485.out
                have hns44_1 := NB472_485.out
                have hms44_0 := NB485_461.out
                have hms44_1 := NB485_472.out
                have hs46 : w40.cell? ⟨gb485, 3, none⟩ = some (.slice none 0 0) := (blk_cell BK485.out 3).trans rfl
                have hfs46 := blk_frozen BK485.out 3
                have hns46_0 := NB461_485.out
                have hns46_1 := NB472_485.out
                have hms46_0 := NB485_461.out
                have hms46_1 := NB485_472.out
                refine skip_ (w1 := ?_) (by rfl) rfl ?_ ?_
                rotate_left
                · go_simp
                  rfl
                refine hK.out _ _ ⟨((cell_far (p := ⟨gb485, _, none⟩) NB461_485.out _).trans (((cell_far (p := ⟨gb485, _, none⟩) NB461_485.out _).trans (((cell_far (p := ⟨gb485, _, none⟩) NB461_485.out _).trans (((cell_far (p := ⟨gb485, _, none⟩) NB461_485.out _).trans (hHeld.1)))))))), ((cell_far (p := ⟨gb485, _, none⟩) NB461_485.out _).trans (((cell_far (p := ⟨gb485, _, none⟩) NB461_485.out _).trans (((cell_far (p := ⟨gb485, _, none⟩) NB461_485.out _).trans (((cell_far (p := ⟨gb485, _, none⟩) NB461_485.out _).trans (hHeld.2.1)))))))), ((cell_far (p := ⟨gb485, _, none⟩) NB461_485.out _).trans (((cell_far (p := ⟨gb485, _, none⟩) NB461_485.out _).trans (((cell_far (p := ⟨gb485, _, none⟩) NB461_485.out _).trans (((cell_far (p := ⟨gb485, _, none⟩) NB461_485.out _).trans (hHeld.2.2.1)))))))), ((cell_far (p := ⟨gb485, _, none⟩) NB461_485.out _).trans (((cell_far (p := ⟨gb485, _, none⟩) NB461_485.out _).trans (((cell_far (p := ⟨gb485, _, none⟩) NB461_485.out _).trans (((cell_far (p := ⟨gb485, _, none⟩) NB461_485.out _).trans (hHeld.2.2.2))))))))⟩ (fun hHeld => ?_)
                clear hK K
                refine pure_ (i := 10) (N := some 6) (v := ?_) (a' := ?_) #[true, true, true, true, true, true, true, true, true, true, true] rfl rfl (any_of HT_.out (by kernel_rfl)) (fun _ _ _ h => h) (Or.inl ⟨by rfl, ?_⟩) ?_ ?_
                rotate_left
                · intro w'
                  go_simp
                  with_reducible rfl
                rotate_left
                · simp only [Act.put, List.setIfInBounds_toArray, List.set_cons_zero, List.set_cons_succ, i64_w, i32_w]
                  rfl
                refine done_ (done_of HT_.out (by kernel_rfl)) ?_
                try go_wp2
                have n0_ : Aside0 (Kd.R Kd.string 9 ((((w40.setCell ⟨gb485, 0, none⟩ (.int .i64 t476)).setCell ⟨gb485, 1, none⟩ (.string t477)).setCell ⟨gb485, 2, none⟩ (.slice Ao43 t478.length co43)).setCell ⟨gb485, 3, none⟩ (.slice Ao45 t481.length co45)) w.heap.size (fun k_ => some k_ ≠ (v474 : Value).ownBlock ∧ some k_ ≠ (.slice Ao43 t478.length co43 : Value).ownBlock) (.slice Ao32 t466.length co32) t466) := ⟨by (with_reducible repeat (first | apply Kd.R_alloc | apply Kd.R_drewN | apply Kd.R_drew)); exact Kd.R_mono (Kd.R_far (p := ⟨gb485, 3, none⟩) (Kd.R_far (p := ⟨gb485, 2, none⟩) (Kd.R_far (p := ⟨gb485, 1, none⟩) (Kd.R_far (p := ⟨gb485, 0, none⟩) (Kd.R_types HO468.out BK485.out (by decide)) (fun _ hk => hk.2) (.int .i64 t476)) (fun _ hk => hk.2) (.string t477)) (fun _ hk => hk.2) (.slice Ao43 t478.length co43)) (fun _ hk => hk.2) (.slice Ao45 t481.length co45)) (fun _ hk => ⟨hk.1.1, hk.1.2⟩)⟩
                have n1_ : Aside0 (Kd.R k76 76 ((((w40.setCell ⟨gb485, 0, none⟩ (.int .i64 t476)).setCell ⟨gb485, 1, none⟩ (.string t477)).setCell ⟨gb485, 2, none⟩ (.slice Ao43 t478.length co43)).setCell ⟨gb485, 3, none⟩ (.slice Ao45 t481.length co45)) w.heap.size (fun k_ => some k_ ≠ (.slice Ao45 t481.length co45 : Value).ownBlock) (.slice Ao33 t469.length co33) t469) := ⟨by (with_reducible repeat (first | apply Kd.R_alloc | apply Kd.R_drewN | apply Kd.R_drew)); exact Kd.R_mono (Kd.R_far (p := ⟨gb485, 3, none⟩) (Kd.R_far (p := ⟨gb485, 2, none⟩) (Kd.R_far (p := ⟨gb485, 1, none⟩) (Kd.R_far (p := ⟨gb485, 0, none⟩) (Kd.R_types HO471.out BK485.out (by decide)) (fun _ hk => hk.2) (.int .i64 t476)) (fun _ hk => hk.2) (.string t477)) (fun _ hk => hk.2) (.slice Ao43 t478.length co43)) (fun _ hk => hk.2) (.slice Ao45 t481.length co45)) (fun _ hk => hk.1)⟩
                have n2_ : Aside0 (Kd.R Kd.string 9 ((((w40.setCell ⟨gb485, 0, none⟩ (.int .i64 t476)).setCell ⟨gb485, 1, none⟩ (.string t477)).setCell ⟨gb485, 2, none⟩ (.slice Ao43 t478.length co43)).setCell ⟨gb485, 3, none⟩ (.slice Ao45 t481.length co45)) w.heap.size (fun k_ => some k_ ≠ (.slice Ao32 t466.length co32 : Value).ownBlock ∧ some k_ ≠ (.slice Ao43 t478.length co43 : Value).ownBlock) v474 t473) := ⟨by (with_reducible repeat (first | apply Kd.R_alloc | apply Kd.R_drewN | apply Kd.R_drew)); exact Kd.R_mono (Kd.R_far (p := ⟨gb485, 3, none⟩) (Kd.R_far (p := ⟨gb485, 2, none⟩) (Kd.R_far (p := ⟨gb485, 1, none⟩) (Kd.R_far (p := ⟨gb485, 0, none⟩) (Kd.R_types HO475.out BK485.out (by decide)) (fun _ hk => hk.2) (.int .i64 t476)) (fun _ hk => hk.2) (.string t477)) (fun _ hk => hk.2) (.slice Ao43 t478.length co43)) (fun _ hk => hk.2) (.slice Ao45 t481.length co45)) (fun _ hk => ⟨hk.1.1, hk.1.2⟩)⟩
                have n3_ : Aside0 (Kd.R Kd.string 9 ((((w40.setCell ⟨gb485, 0, none⟩ (.int .i64 t476)).setCell ⟨gb485, 1, none⟩ (.string t477)).setCell ⟨gb485, 2, none⟩ (.slice Ao43 t478.length co43)).setCell ⟨gb485, 3, none⟩ (.slice Ao45 t481.length co45)) w.heap.size (fun k_ => some k_ ≠ (.slice Ao32 t466.length co32 : Value).ownBlock ∧ some k_ ≠ (v474 : Value).ownBlock) (.slice Ao43 t478.length co43) t478) := ⟨by (with_reducible repeat (first | apply Kd.R_alloc | apply Kd.R_drewN | apply Kd.R_drew)); exact Kd.R_mono (Kd.R_far (p := ⟨gb485, 3, none⟩) (Kd.R_far (p := ⟨gb485, 2, none⟩) (Kd.R_far (p := ⟨gb485, 1, none⟩) (Kd.R_far (p := ⟨gb485, 0, none⟩) (Kd.R_types HO480.out BK485.out (by decide)) (fun _ hk => hk.2) (.int .i64 t476)) (fun _ hk => hk.2) (.string t477)) (fun _ hk => hk.2) (.slice Ao43 t478.length co43)) (fun _ hk => hk.2) (.slice Ao45 t481.length co45)) (fun _ hk => ⟨hk.1.1, hk.1.2⟩)⟩
                have n4_ : Aside0 (Kd.R k76 76 ((((w40.setCell ⟨gb485, 0, none⟩ (.int .i64 t476)).setCell ⟨gb485, 1, none⟩ (.string t477)).setCell ⟨gb485, 2, none⟩ (.slice Ao43 t478.length co43)).setCell ⟨gb485, 3, none⟩ (.slice Ao45 t481.length co45)) w.heap.size (fun k_ => some k_ ≠ (.slice Ao33 t469.length co33 : Value).ownBlock) (.slice Ao45 t481.length co45) t481) := ⟨by (with_reducible repeat (first | apply Kd.R_alloc | apply Kd.R_drewN | apply Kd.R_drew)); exact Kd.R_mono (Kd.R_far (p := ⟨gb485, 3, none⟩) (Kd.R_far (p := ⟨gb485, 2, none⟩) (Kd.R_far (p := ⟨gb485, 1, none⟩) (Kd.R_far (p := ⟨gb485, 0, none⟩) (Kd.R_types HO483.out BK485.out (by decide)) (fun _ hk => hk.2) (.int .i64 t476)) (fun _ hk => hk.2) (.string t477)) (fun _ hk => hk.2) (.slice Ao43 t478.length co43)) (fun _ hk => hk.2) (.slice Ao45 t481.length co45)) (fun _ hk => hk.1)⟩
                have n5_ : Aside0 (((((w40.setCell ⟨gb485, 0, none⟩ (.int .i64 t476)).setCell ⟨gb485, 1, none⟩ (.string t477)).setCell ⟨gb485, 2, none⟩ (.slice Ao43 t478.length co43)).setCell ⟨gb485, 3, none⟩ (.slice Ao45 t481.length co45)).heap[gb461]? = some (.cells #[.int .i64 a0_0, .string a0_1, .slice A0_2 l0_2.length c0_2, .slice A0_3 l0_3.length c0_3] 52 (0, 0))) := ⟨by (with_reducible repeat (first | refine blk_drewN ?_ _ | refine blk_drew ?_ | refine blk_alloc ?_ _)); refine blk_far ?_ NB461_485.out _; (with_reducible repeat (first | refine blk_drewN ?_ _ | refine blk_drew ?_ | refine blk_alloc ?_ _)); refine blk_far ?_ NB461_485.out _; (with_reducible repeat (first | refine blk_drewN ?_ _ | refine blk_drew ?_ | refine blk_alloc ?_ _)); refine blk_far ?_ NB461_485.out _; (with_reducible repeat (first | refine blk_drewN ?_ _ | refine blk_drew ?_ | refine blk_alloc ?_ _)); refine blk_far ?_ NB461_485.out _; (with_reducible repeat (first | refine blk_drewN ?_ _ | refine blk_drew ?_ | refine blk_alloc ?_ _)); exact BK461.out⟩
                have n6_ : Aside0 (((((w40.setCell ⟨gb485, 0, none⟩ (.int .i64 t476)).setCell ⟨gb485, 1, none⟩ (.string t477)).setCell ⟨gb485, 2, none⟩ (.slice Ao43 t478.length co43)).setCell ⟨gb485, 3, none⟩ (.slice Ao45 t481.length co45)).heap[gb472]? = some (.cells #[.int .i64 t464, .string t465, .slice Ao32 t466.length co32, .slice Ao33 t469.length co33] 52 (0, 0))) := ⟨by (with_reducible repeat (first | refine blk_drewN ?_ _ | refine blk_drew ?_ | refine blk_alloc ?_ _)); refine blk_far ?_ NB472_485.out _; (with_reducible repeat (first | refine blk_drewN ?_ _ | refine blk_drew ?_ | refine blk_alloc ?_ _)); refine blk_far ?_ NB472_485.out _; (with_reducible repeat (first | refine blk_drewN ?_ _ | refine blk_drew ?_ | refine blk_alloc ?_ _)); refine blk_far ?_ NB472_485.out _; (with_reducible repeat (first | refine blk_drewN ?_ _ | refine blk_drew ?_ | refine blk_alloc ?_ _)); refine blk_far ?_ NB472_485.out _; (with_reducible repeat (first | refine blk_drewN ?_ _ | refine blk_drew ?_ | refine blk_alloc ?_ _)); exact BK472.out⟩
                have n7_ : Aside0 (((((w40.setCell ⟨gb485, 0, none⟩ (.int .i64 t476)).setCell ⟨gb485, 1, none⟩ (.string t477)).setCell ⟨gb485, 2, none⟩ (.slice Ao43 t478.length co43)).setCell ⟨gb485, 3, none⟩ (.slice Ao45 t481.length co45)).heap[gb485]? = some (.cells #[.int .i64 t476, .string t477, .slice Ao43 t478.length co43, .slice Ao45 t481.length co45] 52 (0, 0))) := ⟨by (with_reducible repeat (first | refine blk_drewN ?_ _ | refine blk_drew ?_ | refine blk_alloc ?_ _)); refine blk_put (cs := #[.int .i64 t476, .string t477, .slice Ao43 t478.length co43, .slice none 0 0]) ?_ 3 _ rfl; (with_reducible repeat (first | refine blk_drewN ?_ _ | refine blk_drew ?_ | refine blk_alloc ?_ _)); refine blk_put (cs := #[.int .i64 t476, .string t477, .slice none 0 0, .slice none 0 0]) ?_ 2 _ rfl; (with_reducible repeat (first | refine blk_drewN ?_ _ | refine blk_drew ?_ | refine blk_alloc ?_ _)); refine blk_put (cs := #[.int .i64 t476, .string (⟨#[]⟩ : ByteArray), .slice none 0 0, .slice none 0 0]) ?_ 1 _ rfl; (with_reducible repeat (first | refine blk_drewN ?_ _ | refine blk_drew ?_ | refine blk_alloc ?_ _)); refine blk_put (cs := #[.int .i64 0, .string (⟨#[]⟩ : ByteArray), .slice none 0 0, .slice none 0 0]) ?_ 0 _ rfl; (with_reducible repeat (first | refine blk_drewN ?_ _ | refine blk_drew ?_ | refine blk_alloc ?_ _)); exact BK485.out⟩
                have n8_ : Aside0 (Below w.heap.size w ((((w40.setCell ⟨gb485, 0, none⟩ (.int .i64 t476)).setCell ⟨gb485, 1, none⟩ (.string t477)).setCell ⟨gb485, 2, none⟩ (.slice Ao43 t478.length co43)).setCell ⟨gb485, 3, none⟩ (.slice Ao45 t481.length co45))) := ⟨by repeat (first | (with_reducible first | exact HB.out | apply below_alloc | apply pw_below_drewN | apply below_drew1 | refine below_set ?_ GE461.out | refine below_set ?_ GE472.out | refine below_set ?_ GE485.out) | exact HB.out)⟩
                (try clear HO468)
                (try clear HO471)
                (try clear HO475)
                (try clear HO480)
                (try clear HO483)
                (try clear BK461)
                (try clear BK472)
                (try clear BK485)
                (try clear HB)
                generalize ((((w40.setCell ⟨gb485, 0, none⟩ (.int .i64 t476)).setCell ⟨gb485, 1, none⟩ (.string t477)).setCell ⟨gb485, 2, none⟩ (.slice Ao43 t478.length co43)).setCell ⟨gb485, 3, none⟩ (.slice Ao45 t481.length co45)) = w47 at n0_ n1_ n2_ n3_ n4_ n5_ n6_ n7_ n8_ ⊢
                have HO468 := n0_
                have HO471 := n1_
                have HO475 := n2_
                have HO480 := n3_
                have HO483 := n4_
                have BK461 := n5_
                have BK472 := n6_
                have BK485 := n7_
                have HB := n8_
                clear n0_ n1_ n2_ n3_ n4_ n5_ n6_ n7_ n8_
                have n0_ := Aside0.mk (Kd.R_drew HO468.out)
                have n1_ := Aside0.mk (Kd.R_drew HO471.out)
                have n2_ := Aside0.mk (Kd.R_drew HO475.out)
                have n3_ := Aside0.mk (Kd.R_drew HO480.out)
                have n4_ := Aside0.mk (Kd.R_drew HO483.out)
                have n5_ := Aside0.mk (blk_drew BK461.out)
                have n6_ := Aside0.mk (blk_drew BK472.out)
                have n7_ := Aside0.mk (blk_drew BK485.out)
                have n8_ := Aside0.mk (below_drew1 HB.out)
                clear HO468
                clear HO471
                clear HO475
                clear HO480
                clear HO483
                clear BK461
                clear BK472
                clear BK485
                clear HB
                have HO468 := n0_
                have HO471 := n1_
                have HO475 := n2_
                have HO480 := n3_
                have HO483 := n4_
                have BK461 := n5_
                have BK472 := n6_
                have BK485 := n7_
                have HB := n8_
                clear n0_ n1_ n2_ n3_ n4_ n5_ n6_ n7_ n8_
                refine start_ (n := 38) (S := fun w' => w'.cell? ⟨gb472, 0, none⟩ = some (.int .i64 t464) ∧ w'.cell? ⟨gb472, 1, none⟩ = some (.string t465) ∧ w'.cell? ⟨gb472, 2, none⟩ = some (.slice Ao32 t466.length co32) ∧ w'.cell? ⟨gb472, 3, none⟩ = some (.slice Ao33 t469.length co33) ∧ w'.cell? ⟨gb461, 0, none⟩ = some (.int .i64 a0_0) ∧ w'.cell? ⟨gb461, 1, none⟩ = some (.string a0_1) ∧ w'.cell? ⟨gb461, 2, none⟩ = some (.slice A0_2 l0_2.length c0_2) ∧ w'.cell? ⟨gb461, 3, none⟩ = some (.slice A0_3 l0_3.length c0_3) ∧ w'.cell? ⟨gb485, 0, none⟩ = some (.int .i64 t476) ∧ w'.cell? ⟨gb485, 1, none⟩ = some (.string t477) ∧ w'.cell? ⟨gb485, 2, none⟩ = some (.slice Ao43 t478.length co43) ∧ w'.cell? ⟨gb485, 3, none⟩ = some (.slice Ao45 t481.length co45)) (ds := []) #[false, false, false, false, false, false, false, false, false, false, false, false, false, false, false, false, false, false, false, false, false, false, false, false, false, false, false, false, false, false, false, false, false, false, false, false, false, false] (by kernel_rfl) rfl rfl ⟨(blk_cell BK472.out 0).trans rfl, (blk_cell BK472.out 1).trans rfl, (blk_cell BK472.out 2).trans rfl, (blk_cell BK472.out 3).trans rfl, (blk_cell BK461.out 0).trans rfl, (blk_cell BK461.out 1).trans rfl, (blk_cell BK461.out 2).trans rfl, (blk_cell BK461.out 3).trans rfl, (blk_cell BK485.out 0).trans rfl, (blk_cell BK485.out 1).trans rfl, (blk_cell BK485.out 2).trans rfl, (blk_cell BK485.out 3).trans rfl⟩ (fun hHeld => ?_); refine with_tabW phalaropelaw08_ValueCanon.tab6 phalaropelaw08_ValueCanon.bits6 (fun HT_ HW_ => ?_)
                generalize w47.drew = w48 at HO468 HO471 HO475 HO480 HO483 BK461 BK472 BK485 HB hHeld ⊢
                refine pure_ (i := 0) (N := some 22) (v := ?_) (a' := ?_) #[true, false, false, false, false, false, false, false, false, false, false, false, false, false, false, false, false, false, false, false, false, false, false, false, false, false, false, false, false, false, false, false, false, false, false, false, false, false] rfl rfl (any_of HT_.out (by kernel_rfl)) (fun _ _ _ h => h) (Or.inl ⟨by rfl, ?_⟩) ?_ ?_
                rotate_left
                · intro w'
                  go_simp
                  with_reducible rfl
                rotate_left
                · simp only [Act.put, List.setIfInBounds_toArray, List.set_cons_zero, List.set_cons_succ, i64_w, i32_w]
                  rfl
                refine pure_ (i := 1) (N := some 23) (v := ?_) (a' := ?_) #[true, true, false, false, false, false, false, false, false, false, false, false, false, false, false, false, false, false, false, false, false, false, false, false, false, false, false, false, false, false, false, false, false, false, false, false, false, false] rfl rfl (any_of HT_.out (by kernel_rfl)) (fun _ _ _ h => h) (Or.inl ⟨by rfl, ?_⟩) ?_ ?_
                rotate_left
                · intro w'
                  go_simp
                  with_reducible rfl
                rotate_left
                · simp only [Act.put, List.setIfInBounds_toArray, List.set_cons_zero, List.set_cons_succ, i64_w, i32_w]
                  rfl
                refine take_ (i := 2) (N := some 24) (v := ?_) (a' := ?_) #[true, true, true, false, false, false, false, false, false, false, false, false, false, false, false, false, false, false, false, false, false, false, false, false, false, false, false, false, false, false, false, false, false, false, false, false, false, false] rfl rfl (take_ofW HT_.out HW_.out (by kernel_rfl)) (fun _ _ _ h => h) (Or.inl ⟨by rfl, ?_⟩) hHeld ?_ ?_
                rotate_left
                · rintro w' ⟨s0, s1, s2, s3, s4, s5, s6, s7, s8, s9, s10, s11⟩
                  go_simp
                  with_reducible rfl
                rotate_left
                · simp only [Act.put, List.setIfInBounds_toArray, List.set_cons_zero, List.set_cons_succ, i64_w, i32_w]
                  rfl
                refine take_ (i := 4) (N := some 26) (v := ?_) (a' := ?_) #[true, true, true, false, true, false, false, false, false, false, false, false, false, false, false, false, false, false, false, false, false, false, false, false, false, false, false, false, false, false, false, false, false, false, false, false, false, false] rfl rfl (take_ofW HT_.out HW_.out (by kernel_rfl)) (fun _ _ _ h => h) (Or.inl ⟨by rfl, ?_⟩) hHeld ?_ ?_
                rotate_left
                · rintro w' ⟨s0, s1, s2, s3, s4, s5, s6, s7, s8, s9, s10, s11⟩
                  go_simp
                  with_reducible rfl
                rotate_left
                · simp only [Act.put, List.setIfInBounds_toArray, List.set_cons_zero, List.set_cons_succ, i64_w, i32_w]
                  rfl
                refine one_ (i := 3) (N := some 25) #[true, true, true, true, true, false, false, false, false, false, false, false, false, false, false, false, false, false, false, false, false, false, false, false, false, false, false, false, false, false, false, false, false, false, false, false, false, false] rfl rfl (one_of HT_.out (by kernel_rfl)) (by decide) (fun K hK => ?_)
                refine goes_ Try.func54 (by kernel_rfl) rfl #[.agg #[.int .i64 t464, .string t465, .slice Ao32 t466.length co32, .slice Ao33 t469.length co33]] (by rfl) rfl rfl (by (try simp only [List.map_toArray, List.map_cons, List.map_nil]); first | done | rfl | (simp only [List.length_drop, List.length_take]; rfl)) ?_
                with_reducible refine (value_Canon.calls k t464 t465 _ _ t466 _ _ t469 t486 t487 t488 t491 _ ?side1 ?side2 ?side3 ?side4 A9.out).mono ?_
                (case side1 => repeat (first | exact (Kd.R_reads' HO468.out).2.2 | (with_reducible refine Kd.C_alloc ?_ _) | (with_reducible refine Kd.C_drewN ?_ _) | (with_reducible refine Kd.C_drew ?_)))
                (case side2 => exact (Kd.R_reads' HO468.out).2.1)
                (case side3 => repeat (first | exact (Kd.R_reads' HO471.out).2.2 | (with_reducible refine Kd.C_alloc ?_ _) | (with_reducible refine Kd.C_drewN ?_ _) | (with_reducible refine Kd.C_drew ?_)))
                (case side4 => exact (Kd.R_reads' HO471.out).2.1)
                rintro e w49 ⟨v489, v492, rfl, ho0, ho1, hb⟩
                refine ⟨_, rfl, ?_⟩
                have n0_ := Aside0.mk (Kd.R_elder' (by (with_reducible repeat (first | apply Kd.R_alloc | apply Kd.R_drewN | apply Kd.R_drew)); exact HO468.out) (Kd.R_base ho0) hb)
                have n1_ := Aside0.mk (Kd.R_elder' (by (with_reducible repeat (first | apply Kd.R_alloc | apply Kd.R_drewN | apply Kd.R_drew)); exact HO471.out) (Kd.R_base ho1) hb)
                have n2_ := Aside0.mk (Kd.R_elder' (by (with_reducible repeat (first | apply Kd.R_alloc | apply Kd.R_drewN | apply Kd.R_drew)); exact HO475.out) (Kd.R_base ho0) hb)
                have n3_ := Aside0.mk (Kd.R_elder' (by (with_reducible repeat (first | apply Kd.R_alloc | apply Kd.R_drewN | apply Kd.R_drew)); exact HO480.out) (Kd.R_base ho0) hb)
                have n4_ := Aside0.mk (Kd.R_elder' (by (with_reducible repeat (first | apply Kd.R_alloc | apply Kd.R_drewN | apply Kd.R_drew)); exact HO483.out) (Kd.R_base ho1) hb)
                have n5_ := Aside0.mk (Kd.R_lower (Kd.R_new' (Kd.R_new' (Kd.R_new' ho0 (Kd.R_lt (by (with_reducible repeat (first | apply Kd.R_alloc | apply Kd.R_drewN | apply Kd.R_drew)); exact HO468.out))) (Kd.R_lt (by (with_reducible repeat (first | apply Kd.R_alloc | apply Kd.R_drewN | apply Kd.R_drew)); exact HO475.out))) (Kd.R_lt (by (with_reducible repeat (first | apply Kd.R_alloc | apply Kd.R_drewN | apply Kd.R_drew)); exact HO480.out))) (below_size (by repeat (first | (with_reducible first | exact HB.out | apply below_alloc | apply pw_below_drewN | apply below_drew1 | refine below_set ?_ GE461.out | refine below_set ?_ GE472.out | refine below_set ?_ GE485.out) | exact HB.out))))
                have n6_ := Aside0.mk (Kd.R_lower (Kd.R_new' (Kd.R_new' ho1 (Kd.R_lt (by (with_reducible repeat (first | apply Kd.R_alloc | apply Kd.R_drewN | apply Kd.R_drew)); exact HO471.out))) (Kd.R_lt (by (with_reducible repeat (first | apply Kd.R_alloc | apply Kd.R_drewN | apply Kd.R_drew)); exact HO483.out))) (below_size (by repeat (first | (with_reducible first | exact HB.out | apply below_alloc | apply pw_below_drewN | apply below_drew1 | refine below_set ?_ GE461.out | refine below_set ?_ GE472.out | refine below_set ?_ GE485.out) | exact HB.out))))
                have n7_ := Aside0.mk (blk_below (g := gb461) (o := .cells #[.int .i64 a0_0, .string a0_1, .slice A0_2 l0_2.length c0_2, .slice A0_3 l0_3.length c0_3] 52 (0, 0)) (by (with_reducible repeat (first | refine blk_drewN ?_ _ | refine blk_drew ?_ | refine blk_alloc ?_ _)); exact BK461.out) hb)
                have n8_ := Aside0.mk (blk_below (g := gb472) (o := .cells #[.int .i64 t464, .string t465, .slice Ao32 t466.length co32, .slice Ao33 t469.length co33] 52 (0, 0)) (by (with_reducible repeat (first | refine blk_drewN ?_ _ | refine blk_drew ?_ | refine blk_alloc ?_ _)); exact BK472.out) hb)
                have n9_ := Aside0.mk (blk_below (g := gb485) (o := .cells #[.int .i64 t476, .string t477, .slice Ao43 t478.length co43, .slice Ao45 t481.length co45] 52 (0, 0)) (by (with_reducible repeat (first | refine blk_drewN ?_ _ | refine blk_drew ?_ | refine blk_alloc ?_ _)); exact BK485.out) hb)
                have n10_ := Aside0.mk (below_step (by repeat (first | (with_reducible first | exact HB.out | apply below_alloc | apply pw_below_drewN | apply below_drew1 | refine below_set ?_ GE461.out | refine below_set ?_ GE472.out | refine below_set ?_ GE485.out) | exact HB.out)) hb)
                clear HO468
                clear HO471
                clear HO475
                clear HO480
                clear HO483
                clear BK461
                clear BK472
                clear BK485
                clear HB
                have HO468 := n0_
                have HO471 := n1_
                have HO475 := n2_
                have HO480 := n3_
                have HO483 := n4_
                have HO490 := n5_
                have HO493 := n6_
                have BK461 := n7_
                have BK472 := n8_
                have BK485 := n9_
                have HB := n10_
                clear n0_ n1_ n2_ n3_ n4_ n5_ n6_ n7_ n8_ n9_ n10_
                (try clear hb)
                (try clear hb2)
                (try clear hk)
                (try clear hi)
                (try clear ho0)
                (try clear ho1)
                obtain ⟨Ao50, co50, eo50⟩ := Kd.R_slice HO490.out
                (first | subst eo50 | (injection eo50 with f1_ f2_ f3_; have f4_ := f1_.symm; have f5_ := f3_.symm; clear f1_ f2_ f3_; subst f4_; subst f5_))
                obtain ⟨Ao51, co51, eo51⟩ := Kd.R_slice HO493.out
                (first | subst eo51 | (injection eo51 with f1_ f2_ f3_; have f4_ := f1_.symm; have f5_ := f3_.symm; clear f1_ f2_ f3_; subst f4_; subst f5_))
                refine hK.out _ _ ⟨(blk_cell BK472.out 0).trans rfl, (blk_cell BK472.out 1).trans rfl, (blk_cell BK472.out 2).trans rfl, (blk_cell BK472.out 3).trans rfl, (blk_cell BK461.out 0).trans rfl, (blk_cell BK461.out 1).trans rfl, (blk_cell BK461.out 2).trans rfl, (blk_cell BK461.out 3).trans rfl, (blk_cell BK485.out 0).trans rfl, (blk_cell BK485.out 1).trans rfl, (blk_cell BK485.out 2).trans rfl, (blk_cell BK485.out 3).trans rfl⟩ (fun hHeld => ?_)
                clear hK K
                refine norm_ (a' := ?_) ?_ ?_
                rotate_left
                · show Act.put _ (some 25) _ = _
                  simp only [Act.put, List.setIfInBounds_toArray, List.set_cons_zero, List.set_cons_succ, i64_w, i32_w]
                  rfl
                refine one_ (i := 5) (N := some 27) #[true, true, true, true, true, true, false, false, false, false, false, false, false, false, false, false, false, false, false, false, false, false, false, false, false, false, false, false, false, false, false, false, false, false, false, false, false, false] rfl rfl (one_of HT_.out (by kernel_rfl)) (by decide) (fun K hK => ?_)
                refine goes_ Try.func46 (by kernel_rfl) rfl #[.agg #[.int .i64 t486, .string t487, .slice Ao50 t488.length co50, .slice Ao51 t491.length co51], .agg #[.int .i64 t464, .string t465, .slice Ao32 t466.length co32, .slice Ao33 t469.length co33]] (by rfl) rfl rfl (by (try simp only [List.map_toArray, List.map_cons, List.map_nil]); first | done | rfl | (simp only [List.length_drop, List.length_take]; rfl)) ?_
                with_reducible refine (phalaroperef08_Very.calls k t486 t487 _ _ t488 _ _ t491 t464 t465 _ _ t466 _ _ t469 true _ ?side1 ?side2 ?side3 ?side4 ?side5 ?side6 ?side7 ?side8 A10.out).mono ?_
                (case side1 => repeat (first | exact (Kd.R_reads' HO490.out).2.2 | (with_reducible refine Kd.C_alloc ?_ _) | (with_reducible refine Kd.C_drewN ?_ _) | (with_reducible refine Kd.C_drew ?_)))
                (case side2 => exact (Kd.R_reads' HO490.out).2.1)
                (case side3 => repeat (first | exact (Kd.R_reads' HO493.out).2.2 | (with_reducible refine Kd.C_alloc ?_ _) | (with_reducible refine Kd.C_drewN ?_ _) | (with_reducible refine Kd.C_drew ?_)))
                (case side4 => exact (Kd.R_reads' HO493.out).2.1)
                (case side5 => repeat (first | exact (Kd.R_reads' HO468.out).2.2 | (with_reducible refine Kd.C_alloc ?_ _) | (with_reducible refine Kd.C_drewN ?_ _) | (with_reducible refine Kd.C_drew ?_)))
                (case side6 => exact (Kd.R_reads' HO468.out).2.1)
                (case side7 => repeat (first | exact (Kd.R_reads' HO471.out).2.2 | (with_reducible refine Kd.C_alloc ?_ _) | (with_reducible refine Kd.C_drewN ?_ _) | (with_reducible refine Kd.C_drew ?_)))
                (case side8 => exact (Kd.R_reads' HO471.out).2.1)
                rintro e w52 ⟨rfl, hb⟩
                refine ⟨_, rfl, ?_⟩
                have n0_ := Aside0.mk (Kd.R_below (by (with_reducible repeat (first | apply Kd.R_alloc | apply Kd.R_drewN | apply Kd.R_drew)); exact HO468.out) hb)
                have n1_ := Aside0.mk (Kd.R_below (by (with_reducible repeat (first | apply Kd.R_alloc | apply Kd.R_drewN | apply Kd.R_drew)); exact HO471.out) hb)
                have n2_ := Aside0.mk (Kd.R_below (by (with_reducible repeat (first | apply Kd.R_alloc | apply Kd.R_drewN | apply Kd.R_drew)); exact HO475.out) hb)
                have n3_ := Aside0.mk (Kd.R_below (by (with_reducible repeat (first | apply Kd.R_alloc | apply Kd.R_drewN | apply Kd.R_drew)); exact HO480.out) hb)
                have n4_ := Aside0.mk (Kd.R_below (by (with_reducible repeat (first | apply Kd.R_alloc | apply Kd.R_drewN | apply Kd.R_drew)); exact HO483.out) hb)
                have n5_ := Aside0.mk (Kd.R_below (by (with_reducible repeat (first | apply Kd.R_alloc | apply Kd.R_drewN | apply Kd.R_drew)); exact HO490.out) hb)
                have n6_ := Aside0.mk (Kd.R_below (by (with_reducible repeat (first | apply Kd.R_alloc | apply Kd.R_drewN | apply Kd.R_drew)); exact HO493.out) hb)
                have n7_ := Aside0.mk (blk_below (g := gb461) (o := .cells #[.int .i64 a0_0, .string a0_1, .slice A0_2 l0_2.length c0_2, .slice A0_3 l0_3.length c0_3] 52 (0, 0)) (by (with_reducible repeat (first | refine blk_drewN ?_ _ | refine blk_drew ?_ | refine blk_alloc ?_ _)); exact BK461.out) hb)
                have n8_ := Aside0.mk (blk_below (g := gb472) (o := .cells #[.int .i64 t464, .string t465, .slice Ao32 t466.length co32, .slice Ao33 t469.length co33] 52 (0, 0)) (by (with_reducible repeat (first | refine blk_drewN ?_ _ | refine blk_drew ?_ | refine blk_alloc ?_ _)); exact BK472.out) hb)
                have n9_ := Aside0.mk (blk_below (g := gb485) (o := .cells #[.int .i64 t476, .string t477, .slice Ao43 t478.length co43, .slice Ao45 t481.length co45] 52 (0, 0)) (by (with_reducible repeat (first | refine blk_drewN ?_ _ | refine blk_drew ?_ | refine blk_alloc ?_ _)); exact BK485.out) hb)
                have n10_ := Aside0.mk (below_step (by repeat (first | (with_reducible first | exact HB.out | apply below_alloc | apply pw_below_drewN | apply below_drew1 | refine below_set ?_ GE461.out | refine below_set ?_ GE472.out | refine below_set ?_ GE485.out) | exact HB.out)) hb)
                clear HO468
                clear HO471
                clear HO475
                clear HO480
                clear HO483
                clear HO490
                clear HO493
                clear BK461
                clear BK472
                clear BK485
                clear HB
                have HO468 := n0_
                have HO471 := n1_
                have HO475 := n2_
                have HO480 := n3_
                have HO483 := n4_
                have HO490 := n5_
                have HO493 := n6_
                have BK461 := n7_
                have BK472 := n8_
                have BK485 := n9_
                have HB := n10_
                clear n0_ n1_ n2_ n3_ n4_ n5_ n6_ n7_ n8_ n9_ n10_
                (try clear hb)
                (try clear hb2)
                (try clear hk)
                (try clear hi)
                refine hK.out _ _ ⟨(blk_cell BK472.out 0).trans rfl, (blk_cell BK472.out 1).trans rfl, (blk_cell BK472.out 2).trans rfl, (blk_cell BK472.out 3).trans rfl, (blk_cell BK461.out 0).trans rfl, (blk_cell BK461.out 1).trans rfl, (blk_cell BK461.out 2).trans rfl, (blk_cell BK461.out 3).trans rfl, (blk_cell BK485.out 0).trans rfl, (blk_cell BK485.out 1).trans rfl, (blk_cell BK485.out 2).trans rfl, (blk_cell BK485.out 3).trans rfl⟩ (fun hHeld => ?_)
                clear hK K
                refine norm_ (a' := ?_) ?_ ?_
                rotate_left
                · show Act.put _ (some 27) _ = _
                  simp only [Act.put, List.setIfInBounds_toArray, List.set_cons_zero, List.set_cons_succ, i64_w, i32_w]
                  rfl
                refine pure_ (i := 6) (N := some 28) (v := ?_) (a' := ?_) #[true, true, true, true, true, true, true, false, false, false, false, false, false, false, false, false, false, false, false, false, false, false, false, false, false, false, false, false, false, false, false, false, false, false, false, false, false, false] rfl rfl (any_of HT_.out (by kernel_rfl)) (fun _ _ _ h => h) (Or.inl ⟨by rfl, ?_⟩) ?_ ?_
                rotate_left
                · intro w'
                  go_simp
                  with_reducible rfl
                rotate_left
                · simp only [Act.put, List.setIfInBounds_toArray, List.set_cons_zero, List.set_cons_succ, i64_w, i32_w]
                  rfl
                refine pure_ (i := 7) (N := some 29) (v := ?_) (a' := ?_) #[true, true, true, true, true, true, true, true, false, false, false, false, false, false, false, false, false, false, false, false, false, false, false, false, false, false, false, false, false, false, false, false, false, false, false, false, false, false] rfl rfl (any_of HT_.out (by kernel_rfl)) (fun _ _ _ h => h) (Or.inl ⟨by rfl, ?_⟩) ?_ ?_
                rotate_left
                · intro w'
                  go_simp
                  with_reducible rfl
                rotate_left
                · simp only [Act.put, List.setIfInBounds_toArray, List.set_cons_zero, List.set_cons_succ, i64_w, i32_w]
                  rfl
                refine take_ (i := 8) (N := some 30) (v := ?_) (a' := ?_) #[true, true, true, true, true, true, true, true, true, false, false, false, false, false, false, false, false, false, false, false, false, false, false, false, false, false, false, false, false, false, false, false, false, false, false, false, false, false] rfl rfl (take_ofW HT_.out HW_.out (by kernel_rfl)) (fun _ _ _ h => h) (Or.inl ⟨by rfl, ?_⟩) hHeld ?_ ?_
                rotate_left
                · rintro w' ⟨s0, s1, s2, s3, s4, s5, s6, s7, s8, s9, s10, s11⟩
                  go_simp
                  with_reducible rfl
                rotate_left
                · simp only [Act.put, List.setIfInBounds_toArray, List.set_cons_zero, List.set_cons_succ, i64_w, i32_w]
                  rfl
                refine take_ (i := 9) (N := some 31) (v := ?_) (a' := ?_) #[true, true, true, true, true, true, true, true, true, true, false, false, false, false, false, false, false, false, false, false, false, false, false, false, false, false, false, false, false, false, false, false, false, false, false, false, false, false] rfl rfl (take_ofW HT_.out HW_.out (by kernel_rfl)) (fun _ _ _ h => h) (Or.inl ⟨by rfl, ?_⟩) hHeld ?_ ?_
                rotate_left
                · rintro w' ⟨s0, s1, s2, s3, s4, s5, s6, s7, s8, s9, s10, s11⟩
                  go_simp
                  with_reducible rfl
                rotate_left
                · simp only [Act.put, List.setIfInBounds_toArray, List.set_cons_zero, List.set_cons_succ, i64_w, i32_w]
                  rfl
                refine one_ (i := 10) (N := some 32) #[true, true, true, true, true, true, true, true, true, true, true, false, false, false, false, false, false, false, false, false, false, false, false, false, false, false, false, false, false, false, false, false, false, false, false, false, false, false] rfl rfl (one_of HT_.out (by kernel_rfl)) (by decide) (fun K hK => ?_)
                refine goes_ Try.func51 (by kernel_rfl) rfl #[.agg #[.int .i64 a0_0, .string a0_1, .slice A0_2 l0_2.length c0_2, .slice A0_3 l0_3.length c0_3], .agg #[.int .i64 t464, .string t465, .slice Ao32 t466.length co32, .slice Ao33 t469.length co33]] (by rfl) rfl rfl (by (try simp only [List.map_toArray, List.map_cons, List.map_nil]); first | done | rfl | (simp only [List.length_drop, List.length_take]; rfl)) ?_
                with_reducible refine (value_Same.calls k a0_0 a0_1 _ _ l0_2 _ _ l0_3 t464 t465 _ _ t466 _ _ t469 true _ ?side1 ?side2 ?side3 ?side4 ?side5 ?side6 ?side7 ?side8 A12.out).mono ?_
                (case side1 => repeat (first | exact (Kd.C_below HR0_2.out HB.out) | (with_reducible refine Kd.C_alloc ?_ _) | (with_reducible refine Kd.C_drewN ?_ _) | (with_reducible refine Kd.C_drew ?_)))
                (case side2 => exact HC0_2.out)
                (case side3 => repeat (first | exact (Kd.C_below HR0_3.out HB.out) | (with_reducible refine Kd.C_alloc ?_ _) | (with_reducible refine Kd.C_drewN ?_ _) | (with_reducible refine Kd.C_drew ?_)))
                (case side4 => exact HC0_3.out)
                (case side5 => repeat (first | exact (Kd.R_reads' HO468.out).2.2 | (with_reducible refine Kd.C_alloc ?_ _) | (with_reducible refine Kd.C_drewN ?_ _) | (with_reducible refine Kd.C_drew ?_)))
                (case side6 => exact (Kd.R_reads' HO468.out).2.1)
                (case side7 => repeat (first | exact (Kd.R_reads' HO471.out).2.2 | (with_reducible refine Kd.C_alloc ?_ _) | (with_reducible refine Kd.C_drewN ?_ _) | (with_reducible refine Kd.C_drew ?_)))
                (case side8 => exact (Kd.R_reads' HO471.out).2.1)
                rintro e w53 ⟨rfl, hb⟩
                refine ⟨_, rfl, ?_⟩
                have n0_ := Aside0.mk (Kd.R_below (by (with_reducible repeat (first | apply Kd.R_alloc | apply Kd.R_drewN | apply Kd.R_drew)); exact HO468.out) hb)
                have n1_ := Aside0.mk (Kd.R_below (by (with_reducible repeat (first | apply Kd.R_alloc | apply Kd.R_drewN | apply Kd.R_drew)); exact HO471.out) hb)
                have n2_ := Aside0.mk (Kd.R_below (by (with_reducible repeat (first | apply Kd.R_alloc | apply Kd.R_drewN | apply Kd.R_drew)); exact HO475.out) hb)
                have n3_ := Aside0.mk (Kd.R_below (by (with_reducible repeat (first | apply Kd.R_alloc | apply Kd.R_drewN | apply Kd.R_drew)); exact HO480.out) hb)
                have n4_ := Aside0.mk (Kd.R_below (by (with_reducible repeat (first | apply Kd.R_alloc | apply Kd.R_drewN | apply Kd.R_drew)); exact HO483.out) hb)
                have n5_ := Aside0.mk (Kd.R_below (by (with_reducible repeat (first | apply Kd.R_alloc | apply Kd.R_drewN | apply Kd.R_drew)); exact HO490.out) hb)
                have n6_ := Aside0.mk (Kd.R_below (by (with_reducible repeat (first | apply Kd.R_alloc | apply Kd.R_drewN | apply Kd.R_drew)); exact HO493.out) hb)
                have n7_ := Aside0.mk (blk_below (g := gb461) (o := .cells #[.int .i64 a0_0, .string a0_1, .slice A0_2 l0_2.length c0_2, .slice A0_3 l0_3.length c0_3] 52 (0, 0)) (by (with_reducible repeat (first | refine blk_drewN ?_ _ | refine blk_drew ?_ | refine blk_alloc ?_ _)); exact BK461.out) hb)
                have n8_ := Aside0.mk (blk_below (g := gb472) (o := .cells #[.int .i64 t464, .string t465, .slice Ao32 t466.length co32, .slice Ao33 t469.length co33] 52 (0, 0)) (by (with_reducible repeat (first | refine blk_drewN ?_ _ | refine blk_drew ?_ | refine blk_alloc ?_ _)); exact BK472.out) hb)
                have n9_ := Aside0.mk (blk_below (g := gb485) (o := .cells #[.int .i64 t476, .string t477, .slice Ao43 t478.length co43, .slice Ao45 t481.length co45] 52 (0, 0)) (by (with_reducible repeat (first | refine blk_drewN ?_ _ | refine blk_drew ?_ | refine blk_alloc ?_ _)); exact BK485.out) hb)
                have n10_ := Aside0.mk (below_step (by repeat (first | (with_reducible first | exact HB.out | apply below_alloc | apply pw_below_drewN | apply below_drew1 | refine below_set ?_ GE461.out | refine below_set ?_ GE472.out | refine below_set ?_ GE485.out) | exact HB.out)) hb)
                clear HO468
                clear HO471
                clear HO475
                clear HO480
                clear HO483
                clear HO490
                clear HO493
                clear BK461
                clear BK472
                clear BK485
                clear HB
                have HO468 := n0_
                have HO471 := n1_
                have HO475 := n2_
                have HO480 := n3_
                have HO483 := n4_
                have HO490 := n5_
                have HO493 := n6_
                have BK461 := n7_
                have BK472 := n8_
                have BK485 := n9_
                have HB := n10_
                clear n0_ n1_ n2_ n3_ n4_ n5_ n6_ n7_ n8_ n9_ n10_
                (try clear hb)
                (try clear hb2)
                (try clear hk)
                (try clear hi)
                refine hK.out _ _ ⟨(blk_cell BK472.out 0).trans rfl, (blk_cell BK472.out 1).trans rfl, (blk_cell BK472.out 2).trans rfl, (blk_cell BK472.out 3).trans rfl, (blk_cell BK461.out 0).trans rfl, (blk_cell BK461.out 1).trans rfl, (blk_cell BK461.out 2).trans rfl, (blk_cell BK461.out 3).trans rfl, (blk_cell BK485.out 0).trans rfl, (blk_cell BK485.out 1).trans rfl, (blk_cell BK485.out 2).trans rfl, (blk_cell BK485.out 3).trans rfl⟩ (fun hHeld => ?_)
                clear hK K
                refine norm_ (a' := ?_) ?_ ?_
                rotate_left
                · show Act.put _ (some 32) _ = _
                  simp only [Act.put, List.setIfInBounds_toArray, List.set_cons_zero, List.set_cons_succ, i64_w, i32_w]
                  rfl
                refine pure_ (i := 11) (N := some 33) (v := ?_) (a' := ?_) #[true, true, true, true, true, true, true, true, true, true, true, true, false, false, false, false, false, false, false, false, false, false, false, false, false, false, false, false, false, false, false, false, false, false, false, false, false, false] rfl rfl (any_of HT_.out (by kernel_rfl)) (fun _ _ _ h => h) (Or.inl ⟨by rfl, ?_⟩) ?_ ?_
                rotate_left
                · intro w'
                  go_simp
                  with_reducible rfl
                rotate_left
                · simp only [Act.put, List.setIfInBounds_toArray, List.set_cons_zero, List.set_cons_succ, i64_w, i32_w]
                  rfl
                refine pure_ (i := 12) (N := some 34) (v := ?_) (a' := ?_) #[true, true, true, true, true, true, true, true, true, true, true, true, true, false, false, false, false, false, false, false, false, false, false, false, false, false, false, false, false, false, false, false, false, false, false, false, false, false] rfl rfl (any_of HT_.out (by kernel_rfl)) (fun _ _ _ h => h) (Or.inl ⟨by rfl, ?_⟩) ?_ ?_
                rotate_left
                · intro w'
                  go_simp
                  with_reducible rfl
                rotate_left
                · simp only [Act.put, List.setIfInBounds_toArray, List.set_cons_zero, List.set_cons_succ, i64_w, i32_w]
                  rfl
                refine pure_ (i := 13) (N := some 35) (v := ?_) (a' := ?_) #[true, true, true, true, true, true, true, true, true, true, true, true, true, true, false, false, false, false, false, false, false, false, false, false, false, false, false, false, false, false, false, false, false, false, false, false, false, false] rfl rfl (any_of HT_.out (by kernel_rfl)) (fun _ _ _ h => h) (Or.inl ⟨by rfl, ?_⟩) ?_ ?_
                rotate_left
                · intro w'
                  go_simp
                  with_reducible rfl
                rotate_left
                · simp only [Act.put, List.setIfInBounds_toArray, List.set_cons_zero, List.set_cons_succ, i64_w, i32_w]
                  rfl
                refine take_ (i := 14) (N := some 36) (v := ?_) (a' := ?_) #[true, true, true, true, true, true, true, true, true, true, true, true, true, true, true, false, false, false, false, false, false, false, false, false, false, false, false, false, false, false, false, false, false, false, false, false, false, false] rfl rfl (take_ofW HT_.out HW_.out (by kernel_rfl)) (fun _ _ _ h => h) (Or.inl ⟨by rfl, ?_⟩) hHeld ?_ ?_
                rotate_left
                · rintro w' ⟨s0, s1, s2, s3, s4, s5, s6, s7, s8, s9, s10, s11⟩
                  go_simp
                  with_reducible rfl
                rotate_left
                · simp only [Act.put, List.setIfInBounds_toArray, List.set_cons_zero, List.set_cons_succ, i64_w, i32_w]
                  rfl
                refine one_ (i := 15) (N := some 37) #[true, true, true, true, true, true, true, true, true, true, true, true, true, true, true, true, false, false, false, false, false, false, false, false, false, false, false, false, false, false, false, false, false, false, false, false, false, false] rfl rfl (one_of HT_.out (by kernel_rfl)) (by decide) (fun K hK => ?_)
                refine goes_ Try.func53 (by kernel_rfl) rfl #[.agg #[.int .i64 a0_0, .string a0_1, .slice A0_2 l0_2.length c0_2, .slice A0_3 l0_3.length c0_3]] (by rfl) rfl rfl (by (try simp only [List.map_toArray, List.map_cons, List.map_nil]); first | done | rfl | (simp only [List.length_drop, List.length_take]; rfl)) ?_
                with_reducible refine (value_Defined.calls k a0_0 a0_1 _ _ l0_2 _ _ l0_3 t496 _ ?side1 ?side2 ?side3 ?side4 A14.out).mono ?_
                (case side1 => repeat (first | exact (Kd.C_below HR0_2.out HB.out) | (with_reducible refine Kd.C_alloc ?_ _) | (with_reducible refine Kd.C_drewN ?_ _) | (with_reducible refine Kd.C_drew ?_)))
                (case side2 => exact HC0_2.out)
                (case side3 => repeat (first | exact (Kd.C_below HR0_3.out HB.out) | (with_reducible refine Kd.C_alloc ?_ _) | (with_reducible refine Kd.C_drewN ?_ _) | (with_reducible refine Kd.C_drew ?_)))
                (case side4 => exact HC0_3.out)
                rintro e w54 ⟨rfl, hb⟩
                refine ⟨_, rfl, ?_⟩
                have n0_ := Aside0.mk (Kd.R_below (by (with_reducible repeat (first | apply Kd.R_alloc | apply Kd.R_drewN | apply Kd.R_drew)); exact HO468.out) hb)
                have n1_ := Aside0.mk (Kd.R_below (by (with_reducible repeat (first | apply Kd.R_alloc | apply Kd.R_drewN | apply Kd.R_drew)); exact HO471.out) hb)
                have n2_ := Aside0.mk (Kd.R_below (by (with_reducible repeat (first | apply Kd.R_alloc | apply Kd.R_drewN | apply Kd.R_drew)); exact HO475.out) hb)
                have n3_ := Aside0.mk (Kd.R_below (by (with_reducible repeat (first | apply Kd.R_alloc | apply Kd.R_drewN | apply Kd.R_drew)); exact HO480.out) hb)
                have n4_ := Aside0.mk (Kd.R_below (by (with_reducible repeat (first | apply Kd.R_alloc | apply Kd.R_drewN | apply Kd.R_drew)); exact HO483.out) hb)
                have n5_ := Aside0.mk (Kd.R_below (by (with_reducible repeat (first | apply Kd.R_alloc | apply Kd.R_drewN | apply Kd.R_drew)); exact HO490.out) hb)
                have n6_ := Aside0.mk (Kd.R_below (by (with_reducible repeat (first | apply Kd.R_alloc | apply Kd.R_drewN | apply Kd.R_drew)); exact HO493.out) hb)
                have n7_ := Aside0.mk (blk_below (g := gb461) (o := .cells #[.int .i64 a0_0, .string a0_1, .slice A0_2 l0_2.length c0_2, .slice A0_3 l0_3.length c0_3] 52 (0, 0)) (by (with_reducible repeat (first | refine blk_drewN ?_ _ | refine blk_drew ?_ | refine blk_alloc ?_ _)); exact BK461.out) hb)
                have n8_ := Aside0.mk (blk_below (g := gb472) (o := .cells #[.int .i64 t464, .string t465, .slice Ao32 t466.length co32, .slice Ao33 t469.length co33] 52 (0, 0)) (by (with_reducible repeat (first | refine blk_drewN ?_ _ | refine blk_drew ?_ | refine blk_alloc ?_ _)); exact BK472.out) hb)
                have n9_ := Aside0.mk (blk_below (g := gb485) (o := .cells #[.int .i64 t476, .string t477, .slice Ao43 t478.length co43, .slice Ao45 t481.length co45] 52 (0, 0)) (by (with_reducible repeat (first | refine blk_drewN ?_ _ | refine blk_drew ?_ | refine blk_alloc ?_ _)); exact BK485.out) hb)
                have n10_ := Aside0.mk (below_step (by repeat (first | (with_reducible first | exact HB.out | apply below_alloc | apply pw_below_drewN | apply below_drew1 | refine below_set ?_ GE461.out | refine below_set ?_ GE472.out | refine below_set ?_ GE485.out) | exact HB.out)) hb)
                clear HO468
                clear HO471
                clear HO475
                clear HO480
                clear HO483
                clear HO490
                clear HO493
                clear BK461
                clear BK472
                clear BK485
                clear HB
                have HO468 := n0_
                have HO471 := n1_
                have HO475 := n2_
                have HO480 := n3_
                have HO483 := n4_
                have HO490 := n5_
                have HO493 := n6_
                have BK461 := n7_
                have BK472 := n8_
                have BK485 := n9_
                have HB := n10_
                clear n0_ n1_ n2_ n3_ n4_ n5_ n6_ n7_ n8_ n9_ n10_
                (try clear hb)
                (try clear hb2)
                (try clear hk)
                (try clear hi)
                refine hK.out _ _ ⟨(blk_cell BK472.out 0).trans rfl, (blk_cell BK472.out 1).trans rfl, (blk_cell BK472.out 2).trans rfl, (blk_cell BK472.out 3).trans rfl, (blk_cell BK461.out 0).trans rfl, (blk_cell BK461.out 1).trans rfl, (blk_cell BK461.out 2).trans rfl, (blk_cell BK461.out 3).trans rfl, (blk_cell BK485.out 0).trans rfl, (blk_cell BK485.out 1).trans rfl, (blk_cell BK485.out 2).trans rfl, (blk_cell BK485.out 3).trans rfl⟩ (fun hHeld => ?_)
                clear hK K
                refine norm_ (a' := ?_) ?_ ?_
                rotate_left
                · show Act.put _ (some 37) _ = _
                  simp only [Act.put, List.setIfInBounds_toArray, List.set_cons_zero, List.set_cons_succ, i64_w, i32_w]
                  rfl
                refine pure_ (i := 16) (N := some 38) (v := ?_) (a' := ?_) #[true, true, true, true, true, true, true, true, true, true, true, true, true, true, true, true, true, false, false, false, false, false, false, false, false, false, false, false, false, false, false, false, false, false, false, false, false, false] rfl rfl (any_of HT_.out (by kernel_rfl)) (fun _ _ _ h => h) (Or.inl ⟨by rfl, ?_⟩) ?_ ?_
                rotate_left
                · intro w'
                  go_simp
                  with_reducible rfl
                rotate_left
                · simp only [Act.put, List.setIfInBounds_toArray, List.set_cons_zero, List.set_cons_succ, i64_w, i32_w]
                  rfl
                refine pure_ (i := 17) (N := some 39) (v := ?_) (a' := ?_) #[true, true, true, true, true, true, true, true, true, true, true, true, true, true, true, true, true, true, false, false, false, false, false, false, false, false, false, false, false, false, false, false, false, false, false, false, false, false] rfl rfl (any_of HT_.out (by kernel_rfl)) (fun _ _ _ h => h) (Or.inl ⟨by rfl, ?_⟩) ?_ ?_
                rotate_left
                · intro w'
                  go_simp
                  with_reducible rfl
                rotate_left
                · simp only [Act.put, List.setIfInBounds_toArray, List.set_cons_zero, List.set_cons_succ, i64_w, i32_w]
                  rfl
                refine pure_ (i := 18) (N := some 40) (v := ?_) (a' := ?_) #[true, true, true, true, true, true, true, true, true, true, true, true, true, true, true, true, true, true, true, false, false, false, false, false, false, false, false, false, false, false, false, false, false, false, false, false, false, false] rfl rfl (any_of HT_.out (by kernel_rfl)) (fun _ _ _ h => h) (Or.inl ⟨by rfl, ?_⟩) ?_ ?_
                rotate_left
                · intro w'
                  go_simp
                  with_reducible rfl
                rotate_left
                · simp only [Act.put, List.setIfInBounds_toArray, List.set_cons_zero, List.set_cons_succ, i64_w, i32_w]
                  rfl
                refine take_ (i := 19) (N := some 41) (v := ?_) (a' := ?_) #[true, true, true, true, true, true, true, true, true, true, true, true, true, true, true, true, true, true, true, true, false, false, false, false, false, false, false, false, false, false, false, false, false, false, false, false, false, false] rfl rfl (take_ofW HT_.out HW_.out (by kernel_rfl)) (fun _ _ _ h => h) (Or.inl ⟨by rfl, ?_⟩) hHeld ?_ ?_
                rotate_left
                · rintro w' ⟨s0, s1, s2, s3, s4, s5, s6, s7, s8, s9, s10, s11⟩
                  go_simp
                  with_reducible rfl
                rotate_left
                · simp only [Act.put, List.setIfInBounds_toArray, List.set_cons_zero, List.set_cons_succ, i64_w, i32_w]
                  rfl
                refine take_ (i := 20) (N := some 42) (v := ?_) (a' := ?_) #[true, true, true, true, true, true, true, true, true, true, true, true, true, true, true, true, true, true, true, true, true, false, false, false, false, false, false, false, false, false, false, false, false, false, false, false, false, false] rfl rfl (take_ofW HT_.out HW_.out (by kernel_rfl)) (fun _ _ _ h => h) (Or.inl ⟨by rfl, ?_⟩) hHeld ?_ ?_
                rotate_left
                · rintro w' ⟨s0, s1, s2, s3, s4, s5, s6, s7, s8, s9, s10, s11⟩
                  go_simp
                  with_reducible rfl
                rotate_left
                · simp only [Act.put, List.setIfInBounds_toArray, List.set_cons_zero, List.set_cons_succ, i64_w, i32_w]
                  rfl
                refine one_ (i := 21) (N := some 43) #[true, true, true, true, true, true, true, true, true, true, true, true, true, true, true, true, true, true, true, true, true, true, false, false, false, false, false, false, false, false, false, false, false, false, false, false, false, false] rfl rfl (one_of HT_.out (by kernel_rfl)) (by decide) (fun K hK => ?_)
                refine goes_ Try.func46 (by kernel_rfl) rfl #[.agg #[.int .i64 t476, .string t477, .slice Ao43 t478.length co43, .slice Ao45 t481.length co45], .agg #[.int .i64 t464, .string t465, .slice Ao32 t466.length co32, .slice Ao33 t469.length co33]] (by rfl) rfl rfl (by (try simp only [List.map_toArray, List.map_cons, List.map_nil]); first | done | rfl | (simp only [List.length_drop, List.length_take]; rfl)) ?_
                with_reducible refine (phalaroperef08_Very.calls k t476 t477 _ _ t478 _ _ t481 t464 t465 _ _ t466 _ _ t469 true _ ?side1 ?side2 ?side3 ?side4 ?side5 ?side6 ?side7 ?side8 A16.out).mono ?_
                (case side1 => repeat (first | exact (Kd.R_reads' HO480.out).2.2 | (with_reducible refine Kd.C_alloc ?_ _) | (with_reducible refine Kd.C_drewN ?_ _) | (with_reducible refine Kd.C_drew ?_)))
                (case side2 => exact (Kd.R_reads' HO480.out).2.1)
                (case side3 => repeat (first | exact (Kd.R_reads' HO483.out).2.2 | (with_reducible refine Kd.C_alloc ?_ _) | (with_reducible refine Kd.C_drewN ?_ _) | (with_reducible refine Kd.C_drew ?_)))
                (case side4 => exact (Kd.R_reads' HO483.out).2.1)
                (case side5 => repeat (first | exact (Kd.R_reads' HO468.out).2.2 | (with_reducible refine Kd.C_alloc ?_ _) | (with_reducible refine Kd.C_drewN ?_ _) | (with_reducible refine Kd.C_drew ?_)))
                (case side6 => exact (Kd.R_reads' HO468.out).2.1)
                (case side7 => repeat (first | exact (Kd.R_reads' HO471.out).2.2 | (with_reducible refine Kd.C_alloc ?_ _) | (with_reducible refine Kd.C_drewN ?_ _) | (with_reducible refine Kd.C_drew ?_)))
                (case side8 => exact (Kd.R_reads' HO471.out).2.1)
                rintro e w55 ⟨rfl, hb⟩
                refine ⟨_, rfl, ?_⟩
                have n0_ := Aside0.mk (Kd.R_below (by (with_reducible repeat (first | apply Kd.R_alloc | apply Kd.R_drewN | apply Kd.R_drew)); exact HO468.out) hb)
                have n1_ := Aside0.mk (Kd.R_below (by (with_reducible repeat (first | apply Kd.R_alloc | apply Kd.R_drewN | apply Kd.R_drew)); exact HO471.out) hb)
                have n2_ := Aside0.mk (Kd.R_below (by (with_reducible repeat (first | apply Kd.R_alloc | apply Kd.R_drewN | apply Kd.R_drew)); exact HO475.out) hb)
                have n3_ := Aside0.mk (Kd.R_below (by (with_reducible repeat (first | apply Kd.R_alloc | apply Kd.R_drewN | apply Kd.R_drew)); exact HO480.out) hb)
                have n4_ := Aside0.mk (Kd.R_below (by (with_reducible repeat (first | apply Kd.R_alloc | apply Kd.R_drewN | apply Kd.R_drew)); exact HO483.out) hb)
                have n5_ := Aside0.mk (Kd.R_below (by (with_reducible repeat (first | apply Kd.R_alloc | apply Kd.R_drewN | apply Kd.R_drew)); exact HO490.out) hb)
                have n6_ := Aside0.mk (Kd.R_below (by (with_reducible repeat (first | apply Kd.R_alloc | apply Kd.R_drewN | apply Kd.R_drew)); exact HO493.out) hb)
                have n7_ := Aside0.mk (blk_below (g := gb461) (o := .cells #[.int .i64 a0_0, .string a0_1, .slice A0_2 l0_2.length c0_2, .slice A0_3 l0_3.length c0_3] 52 (0, 0)) (by (with_reducible repeat (first | refine blk_drewN ?_ _ | refine blk_drew ?_ | refine blk_alloc ?_ _)); exact BK461.out) hb)
                have n8_ := Aside0.mk (blk_below (g := gb472) (o := .cells #[.int .i64 t464, .string t465, .slice Ao32 t466.length co32, .slice Ao33 t469.length co33] 52 (0, 0)) (by (with_reducible repeat (first | refine blk_drewN ?_ _ | refine blk_drew ?_ | refine blk_alloc ?_ _)); exact BK472.out) hb)
                have n9_ := Aside0.mk (blk_below (g := gb485) (o := .cells #[.int .i64 t476, .string t477, .slice Ao43 t478.length co43, .slice Ao45 t481.length co45] 52 (0, 0)) (by (with_reducible repeat (first | refine blk_drewN ?_ _ | refine blk_drew ?_ | refine blk_alloc ?_ _)); exact BK485.out) hb)
                have n10_ := Aside0.mk (below_step (by repeat (first | (with_reducible first | exact HB.out | apply below_alloc | apply pw_below_drewN | apply below_drew1 | refine below_set ?_ GE461.out | refine below_set ?_ GE472.out | refine below_set ?_ GE485.out) | exact HB.out)) hb)
                clear HO468
                clear HO471
                clear HO475
                clear HO480
                clear HO483
                clear HO490
                clear HO493
                clear BK461
                clear BK472
                clear BK485
                clear HB
                have HO468 := n0_
                have HO471 := n1_
                have HO475 := n2_
                have HO480 := n3_
                have HO483 := n4_
                have HO490 := n5_
                have HO493 := n6_
                have BK461 := n7_
                have BK472 := n8_
                have BK485 := n9_
                have HB := n10_
                clear n0_ n1_ n2_ n3_ n4_ n5_ n6_ n7_ n8_ n9_ n10_
                (try clear hb)
                (try clear hb2)
                (try clear hk)
                (try clear hi)
                refine hK.out _ _ ⟨(blk_cell BK472.out 0).trans rfl, (blk_cell BK472.out 1).trans rfl, (blk_cell BK472.out 2).trans rfl, (blk_cell BK472.out 3).trans rfl, (blk_cell BK461.out 0).trans rfl, (blk_cell BK461.out 1).trans rfl, (blk_cell BK461.out 2).trans rfl, (blk_cell BK461.out 3).trans rfl, (blk_cell BK485.out 0).trans rfl, (blk_cell BK485.out 1).trans rfl, (blk_cell BK485.out 2).trans rfl, (blk_cell BK485.out 3).trans rfl⟩ (fun hHeld => ?_)
                clear hK K
                refine norm_ (a' := ?_) ?_ ?_
                rotate_left
                · show Act.put _ (some 43) _ = _
                  simp only [Act.put, List.setIfInBounds_toArray, List.set_cons_zero, List.set_cons_succ, i64_w, i32_w]
                  rfl
                refine pure_ (i := 22) (N := some 44) (v := ?_) (a' := ?_) #[true, true, true, true, true, true, true, true, true, true, true, true, true, true, true, true, true, true, true, true, true, true, true, false, false, false, false, false, false, false, false, false, false, false, false, false, false, false] rfl rfl (any_of HT_.out (by kernel_rfl)) (fun _ _ _ h => h) (Or.inl ⟨by rfl, ?_⟩) ?_ ?_
                rotate_left
                · intro w'
                  go_simp
                  with_reducible rfl
                rotate_left
                · simp only [Act.put, List.setIfInBounds_toArray, List.set_cons_zero, List.set_cons_succ, i64_w, i32_w]
                  rfl
                refine pure_ (i := 23) (N := some 45) (v := ?_) (a' := ?_) #[true, true, true, true, true, true, true, true, true, true, true, true, true, true, true, true, true, true, true, true, true, true, true, true, false, false, false, false, false, false, false, false, false, false, false, false, false, false] rfl rfl (any_of HT_.out (by kernel_rfl)) (fun _ _ _ h => h) (Or.inl ⟨by rfl, ?_⟩) ?_ ?_
                rotate_left
                · intro w'
                  go_simp
                  with_reducible rfl
                rotate_left
                · simp only [Act.put, List.setIfInBounds_toArray, List.set_cons_zero, List.set_cons_succ, i64_w, i32_w]
                  rfl
                refine take_ (i := 24) (N := some 46) (v := ?_) (a' := ?_) #[true, true, true, true, true, true, true, true, true, true, true, true, true, true, true, true, true, true, true, true, true, true, true, true, true, false, false, false, false, false, false, false, false, false, false, false, false, false] rfl rfl (take_ofW HT_.out HW_.out (by kernel_rfl)) (fun _ _ _ h => h) (Or.inl ⟨by rfl, ?_⟩) hHeld ?_ ?_
                rotate_left
                · rintro w' ⟨s0, s1, s2, s3, s4, s5, s6, s7, s8, s9, s10, s11⟩
                  go_simp
                  with_reducible rfl
                rotate_left
                · simp only [Act.put, List.setIfInBounds_toArray, List.set_cons_zero, List.set_cons_succ, i64_w, i32_w]
                  rfl
                refine take_ (i := 26) (N := some 48) (v := ?_) (a' := ?_) #[true, true, true, true, true, true, true, true, true, true, true, true, true, true, true, true, true, true, true, true, true, true, true, true, true, false, true, false, false, false, false, false, false, false, false, false, false, false] rfl rfl (take_ofW HT_.out HW_.out (by kernel_rfl)) (fun _ _ _ h => h) (Or.inl ⟨by rfl, ?_⟩) hHeld ?_ ?_
                rotate_left
                · rintro w' ⟨s0, s1, s2, s3, s4, s5, s6, s7, s8, s9, s10, s11⟩
                  go_simp
                  with_reducible rfl
                rotate_left
                · simp only [Act.put, List.setIfInBounds_toArray, List.set_cons_zero, List.set_cons_succ, i64_w, i32_w]
                  rfl
                refine one_ (i := 25) (N := some 47) #[true, true, true, true, true, true, true, true, true, true, true, true, true, true, true, true, true, true, true, true, true, true, true, true, true, true, true, false, false, false, false, false, false, false, false, false, false, false] rfl rfl (one_of HT_.out (by kernel_rfl)) (by decide) (fun K hK => ?_)
                refine goes_ Try.func53 (by kernel_rfl) rfl #[.agg #[.int .i64 t464, .string t465, .slice Ao32 t466.length co32, .slice Ao33 t469.length co33]] (by rfl) rfl rfl (by (try simp only [List.map_toArray, List.map_cons, List.map_nil]); first | done | rfl | (simp only [List.length_drop, List.length_take]; rfl)) ?_
                with_reducible refine (value_Defined.calls k t464 t465 _ _ t466 _ _ t469 t498 _ ?side1 ?side2 ?side3 ?side4 A18.out).mono ?_
                (case side1 => repeat (first | exact (Kd.R_reads' HO468.out).2.2 | (with_reducible refine Kd.C_alloc ?_ _) | (with_reducible refine Kd.C_drewN ?_ _) | (with_reducible refine Kd.C_drew ?_)))
                (case side2 => exact (Kd.R_reads' HO468.out).2.1)
                (case side3 => repeat (first | exact (Kd.R_reads' HO471.out).2.2 | (with_reducible refine Kd.C_alloc ?_ _) | (with_reducible refine Kd.C_drewN ?_ _) | (with_reducible refine Kd.C_drew ?_)))
                (case side4 => exact (Kd.R_reads' HO471.out).2.1)
                rintro e w56 ⟨rfl, hb⟩
                refine ⟨_, rfl, ?_⟩
                have n0_ := Aside0.mk (Kd.R_below (by (with_reducible repeat (first | apply Kd.R_alloc | apply Kd.R_drewN | apply Kd.R_drew)); exact HO468.out) hb)
                have n1_ := Aside0.mk (Kd.R_below (by (with_reducible repeat (first | apply Kd.R_alloc | apply Kd.R_drewN | apply Kd.R_drew)); exact HO471.out) hb)
                have n2_ := Aside0.mk (Kd.R_below (by (with_reducible repeat (first | apply Kd.R_alloc | apply Kd.R_drewN | apply Kd.R_drew)); exact HO475.out) hb)
                have n3_ := Aside0.mk (Kd.R_below (by (with_reducible repeat (first | apply Kd.R_alloc | apply Kd.R_drewN | apply Kd.R_drew)); exact HO480.out) hb)
                have n4_ := Aside0.mk (Kd.R_below (by (with_reducible repeat (first | apply Kd.R_alloc | apply Kd.R_drewN | apply Kd.R_drew)); exact HO483.out) hb)
                have n5_ := Aside0.mk (Kd.R_below (by (with_reducible repeat (first | apply Kd.R_alloc | apply Kd.R_drewN | apply Kd.R_drew)); exact HO490.out) hb)
                have n6_ := Aside0.mk (Kd.R_below (by (with_reducible repeat (first | apply Kd.R_alloc | apply Kd.R_drewN | apply Kd.R_drew)); exact HO493.out) hb)
                have n7_ := Aside0.mk (blk_below (g := gb461) (o := .cells #[.int .i64 a0_0, .string a0_1, .slice A0_2 l0_2.length c0_2, .slice A0_3 l0_3.length c0_3] 52 (0, 0)) (by (with_reducible repeat (first | refine blk_drewN ?_ _ | refine blk_drew ?_ | refine blk_alloc ?_ _)); exact BK461.out) hb)
                have n8_ := Aside0.mk (blk_below (g := gb472) (o := .cells #[.int .i64 t464, .string t465, .slice Ao32 t466.length co32, .slice Ao33 t469.length co33] 52 (0, 0)) (by (with_reducible repeat (first | refine blk_drewN ?_ _ | refine blk_drew ?_ | refine blk_alloc ?_ _)); exact BK472.out) hb)
                have n9_ := Aside0.mk (blk_below (g := gb485) (o := .cells #[.int .i64 t476, .string t477, .slice Ao43 t478.length co43, .slice Ao45 t481.length co45] 52 (0, 0)) (by (with_reducible repeat (first | refine blk_drewN ?_ _ | refine blk_drew ?_ | refine blk_alloc ?_ _)); exact BK485.out) hb)
                have n10_ := Aside0.mk (below_step (by repeat (first | (with_reducible first | exact HB.out | apply below_alloc | apply pw_below_drewN | apply below_drew1 | refine below_set ?_ GE461.out | refine below_set ?_ GE472.out | refine below_set ?_ GE485.out) | exact HB.out)) hb)
                clear HO468
                clear HO471
                clear HO475
                clear HO480
                clear HO483
                clear HO490
                clear HO493
                clear BK461
                clear BK472
                clear BK485
                clear HB
                have HO468 := n0_
                have HO471 := n1_
                have HO475 := n2_
                have HO480 := n3_
                have HO483 := n4_
                have HO490 := n5_
                have HO493 := n6_
                have BK461 := n7_
                have BK472 := n8_
                have BK485 := n9_
                have HB := n10_
                clear n0_ n1_ n2_ n3_ n4_ n5_ n6_ n7_ n8_ n9_ n10_
                (try clear hb)
                (try clear hb2)
                (try clear hk)
                (try clear hi)
                refine hK.out _ _ ⟨(blk_cell BK472.out 0).trans rfl, (blk_cell BK472.out 1).trans rfl, (blk_cell BK472.out 2).trans rfl, (blk_cell BK472.out 3).trans rfl, (blk_cell BK461.out 0).trans rfl, (blk_cell BK461.out 1).trans rfl, (blk_cell BK461.out 2).trans rfl, (blk_cell BK461.out 3).trans rfl, (blk_cell BK485.out 0).trans rfl, (blk_cell BK485.out 1).trans rfl, (blk_cell BK485.out 2).trans rfl, (blk_cell BK485.out 3).trans rfl⟩ (fun hHeld => ?_)
                clear hK K
                refine norm_ (a' := ?_) ?_ ?_
                rotate_left
                · show Act.put _ (some 47) _ = _
                  simp only [Act.put, List.setIfInBounds_toArray, List.set_cons_zero, List.set_cons_succ, i64_w, i32_w]
                  rfl
                refine one_ (i := 27) (N := some 49) #[true, true, true, true, true, true, true, true, true, true, true, true, true, true, true, true, true, true, true, true, true, true, true, true, true, true, true, true, false, false, false, false, false, false, false, false, false, false] rfl rfl (one_of HT_.out (by kernel_rfl)) (by decide) (fun K hK => ?_)
                refine goes_ Try.func53 (by kernel_rfl) rfl #[.agg #[.int .i64 a0_0, .string a0_1, .slice A0_2 l0_2.length c0_2, .slice A0_3 l0_3.length c0_3]] (by rfl) rfl rfl (by (try simp only [List.map_toArray, List.map_cons, List.map_nil]); first | done | rfl | (simp only [List.length_drop, List.length_take]; rfl)) ?_
                with_reducible refine (value_Defined.calls k a0_0 a0_1 _ _ l0_2 _ _ l0_3 t499 _ ?side1 ?side2 ?side3 ?side4 A19.out).mono ?_
                (case side1 => repeat (first | exact (Kd.C_below HR0_2.out HB.out) | (with_reducible refine Kd.C_alloc ?_ _) | (with_reducible refine Kd.C_drewN ?_ _) | (with_reducible refine Kd.C_drew ?_)))
                (case side2 => exact HC0_2.out)
                (case side3 => repeat (first | exact (Kd.C_below HR0_3.out HB.out) | (with_reducible refine Kd.C_alloc ?_ _) | (with_reducible refine Kd.C_drewN ?_ _) | (with_reducible refine Kd.C_drew ?_)))
                (case side4 => exact HC0_3.out)
                rintro e w57 ⟨rfl, hb⟩
                refine ⟨_, rfl, ?_⟩
                have n0_ := Aside0.mk (Kd.R_below (by (with_reducible repeat (first | apply Kd.R_alloc | apply Kd.R_drewN | apply Kd.R_drew)); exact HO468.out) hb)
                have n1_ := Aside0.mk (Kd.R_below (by (with_reducible repeat (first | apply Kd.R_alloc | apply Kd.R_drewN | apply Kd.R_drew)); exact HO471.out) hb)
                have n2_ := Aside0.mk (Kd.R_below (by (with_reducible repeat (first | apply Kd.R_alloc | apply Kd.R_drewN | apply Kd.R_drew)); exact HO475.out) hb)
                have n3_ := Aside0.mk (Kd.R_below (by (with_reducible repeat (first | apply Kd.R_alloc | apply Kd.R_drewN | apply Kd.R_drew)); exact HO480.out) hb)
                have n4_ := Aside0.mk (Kd.R_below (by (with_reducible repeat (first | apply Kd.R_alloc | apply Kd.R_drewN | apply Kd.R_drew)); exact HO483.out) hb)
                have n5_ := Aside0.mk (Kd.R_below (by (with_reducible repeat (first | apply Kd.R_alloc | apply Kd.R_drewN | apply Kd.R_drew)); exact HO490.out) hb)
                have n6_ := Aside0.mk (Kd.R_below (by (with_reducible repeat (first | apply Kd.R_alloc | apply Kd.R_drewN | apply Kd.R_drew)); exact HO493.out) hb)
                have n7_ := Aside0.mk (blk_below (g := gb461) (o := .cells #[.int .i64 a0_0, .string a0_1, .slice A0_2 l0_2.length c0_2, .slice A0_3 l0_3.length c0_3] 52 (0, 0)) (by (with_reducible repeat (first | refine blk_drewN ?_ _ | refine blk_drew ?_ | refine blk_alloc ?_ _)); exact BK461.out) hb)
                have n8_ := Aside0.mk (blk_below (g := gb472) (o := .cells #[.int .i64 t464, .string t465, .slice Ao32 t466.length co32, .slice Ao33 t469.length co33] 52 (0, 0)) (by (with_reducible repeat (first | refine blk_drewN ?_ _ | refine blk_drew ?_ | refine blk_alloc ?_ _)); exact BK472.out) hb)
                have n9_ := Aside0.mk (blk_below (g := gb485) (o := .cells #[.int .i64 t476, .string t477, .slice Ao43 t478.length co43, .slice Ao45 t481.length co45] 52 (0, 0)) (by (with_reducible repeat (first | refine blk_drewN ?_ _ | refine blk_drew ?_ | refine blk_alloc ?_ _)); exact BK485.out) hb)
                have n10_ := Aside0.mk (below_step (by repeat (first | (with_reducible first | exact HB.out | apply below_alloc | apply pw_below_drewN | apply below_drew1 | refine below_set ?_ GE461.out | refine below_set ?_ GE472.out | refine below_set ?_ GE485.out) | exact HB.out)) hb)
                clear HO468
                clear HO471
                clear HO475
                clear HO480
                clear HO483
                clear HO490
                clear HO493
                clear BK461
                clear BK472
                clear BK485
                clear HB
                have HO468 := n0_
                have HO471 := n1_
                have HO475 := n2_
                have HO480 := n3_
                have HO483 := n4_
                have HO490 := n5_
                have HO493 := n6_
                have BK461 := n7_
                have BK472 := n8_
                have BK485 := n9_
                have HB := n10_
                clear n0_ n1_ n2_ n3_ n4_ n5_ n6_ n7_ n8_ n9_ n10_
                (try clear hb)
                (try clear hb2)
                (try clear hk)
                (try clear hi)
                refine hK.out _ _ ⟨(blk_cell BK472.out 0).trans rfl, (blk_cell BK472.out 1).trans rfl, (blk_cell BK472.out 2).trans rfl, (blk_cell BK472.out 3).trans rfl, (blk_cell BK461.out 0).trans rfl, (blk_cell BK461.out 1).trans rfl, (blk_cell BK461.out 2).trans rfl, (blk_cell BK461.out 3).trans rfl, (blk_cell BK485.out 0).trans rfl, (blk_cell BK485.out 1).trans rfl, (blk_cell BK485.out 2).trans rfl, (blk_cell BK485.out 3).trans rfl⟩ (fun hHeld => ?_)
                clear hK K
                refine norm_ (a' := ?_) ?_ ?_
                rotate_left
                · show Act.put _ (some 49) _ = _
                  simp only [Act.put, List.setIfInBounds_toArray, List.set_cons_zero, List.set_cons_succ, i64_w, i32_w]
                  rfl
                refine pure_ (i := 28) (N := some 50) (v := ?_) (a' := ?_) #[true, true, true, true, true, true, true, true, true, true, true, true, true, true, true, true, true, true, true, true, true, true, true, true, true, true, true, true, true, false, false, false, false, false, false, false, false, false] rfl rfl (any_of HT_.out (by kernel_rfl)) (fun _ _ _ h => h) (Or.inl ⟨by rfl, ?_⟩) ?_ ?_
                rotate_left
                · intro w'
                  go_simp
                  with_reducible rfl
                rotate_left
                · simp only [Act.put, List.setIfInBounds_toArray, List.set_cons_zero, List.set_cons_succ, i64_w, i32_w]
                  rfl
                refine pure_ (i := 29) (N := some 51) (v := ?_) (a' := ?_) #[true, true, true, true, true, true, true, true, true, true, true, true, true, true, true, true, true, true, true, true, true, true, true, true, true, true, true, true, true, true, false, false, false, false, false, false, false, false] rfl rfl (any_of HT_.out (by kernel_rfl)) (fun _ _ _ h => h) (Or.inl ⟨by rfl, ?_⟩) ?_ ?_
                rotate_left
                · intro w'
                  go_simp
                  with_reducible rfl
                rotate_left
                · simp only [Act.put, List.setIfInBounds_toArray, List.set_cons_zero, List.set_cons_succ, i64_w, i32_w]
                  rfl
                refine pure_ (i := 30) (N := some 52) (v := ?_) (a' := ?_) #[true, true, true, true, true, true, true, true, true, true, true, true, true, true, true, true, true, true, true, true, true, true, true, true, true, true, true, true, true, true, true, false, false, false, false, false, false, false] rfl rfl (any_of HT_.out (by kernel_rfl)) (fun _ _ _ h => h) (Or.inl ⟨by rfl, ?_⟩) ?_ ?_
                rotate_left
                · intro w'
                  go_simp
                  with_reducible rfl
                rotate_left
                · simp only [Act.put, List.setIfInBounds_toArray, List.set_cons_zero, List.set_cons_succ, i64_w, i32_w]
                  rfl
                refine take_ (i := 31) (N := some 53) (v := ?_) (a' := ?_) #[true, true, true, true, true, true, true, true, true, true, true, true, true, true, true, true, true, true, true, true, true, true, true, true, true, true, true, true, true, true, true, true, false, false, false, false, false, false] rfl rfl (take_ofW HT_.out HW_.out (by kernel_rfl)) (fun _ _ _ h => h) (Or.inl ⟨by rfl, ?_⟩) hHeld ?_ ?_
                rotate_left
                · rintro w' ⟨s0, s1, s2, s3, s4, s5, s6, s7, s8, s9, s10, s11⟩
                  go_simp
                  with_reducible rfl
                rotate_left
                · simp only [Act.put, List.setIfInBounds_toArray, List.set_cons_zero, List.set_cons_succ, i64_w, i32_w]
                  rfl
                refine take_ (i := 33) (N := some 55) (v := ?_) (a' := ?_) #[true, true, true, true, true, true, true, true, true, true, true, true, true, true, true, true, true, true, true, true, true, true, true, true, true, true, true, true, true, true, true, true, false, true, false, false, false, false] rfl rfl (take_ofW HT_.out HW_.out (by kernel_rfl)) (fun _ _ _ h => h) (Or.inl ⟨by rfl, ?_⟩) hHeld ?_ ?_
                rotate_left
                · rintro w' ⟨s0, s1, s2, s3, s4, s5, s6, s7, s8, s9, s10, s11⟩
                  go_simp
                  with_reducible rfl
                rotate_left
                · simp only [Act.put, List.setIfInBounds_toArray, List.set_cons_zero, List.set_cons_succ, i64_w, i32_w]
                  rfl
                refine one_ (i := 32) (N := some 54) #[true, true, true, true, true, true, true, true, true, true, true, true, true, true, true, true, true, true, true, true, true, true, true, true, true, true, true, true, true, true, true, true, true, true, false, false, false, false] rfl rfl (one_of HT_.out (by kernel_rfl)) (by decide) (fun K hK => ?_)
                refine goes_ Try.func56 (by kernel_rfl) rfl #[.agg #[.int .i64 t464, .string t465, .slice Ao32 t466.length co32, .slice Ao33 t469.length co33]] (by rfl) rfl rfl (by (try simp only [List.map_toArray, List.map_cons, List.map_nil]); first | done | rfl | (simp only [List.length_drop, List.length_take]; rfl)) ?_
                with_reducible refine (value_Valid.calls t464 t465 _ _ t466 _ _ t469 t500 _ ?side1 ?side2 ?side3 ?side4 A21.out).mono ?_
                (case side1 => repeat (first | exact (Kd.R_reads' HO468.out).2.2 | (with_reducible refine Kd.C_alloc ?_ _) | (with_reducible refine Kd.C_drewN ?_ _) | (with_reducible refine Kd.C_drew ?_)))
                (case side2 => exact (Kd.R_reads' HO468.out).2.1)
                (case side3 => repeat (first | exact (Kd.R_reads' HO471.out).2.2 | (with_reducible refine Kd.C_alloc ?_ _) | (with_reducible refine Kd.C_drewN ?_ _) | (with_reducible refine Kd.C_drew ?_)))
                (case side4 => exact (Kd.R_reads' HO471.out).2.1)
                rintro e w58 ⟨rfl, hb⟩
                refine ⟨_, rfl, ?_⟩
                have n0_ := Aside0.mk (Kd.R_below (by (with_reducible repeat (first | apply Kd.R_alloc | apply Kd.R_drewN | apply Kd.R_drew)); exact HO468.out) hb)
                have n1_ := Aside0.mk (Kd.R_below (by (with_reducible repeat (first | apply Kd.R_alloc | apply Kd.R_drewN | apply Kd.R_drew)); exact HO471.out) hb)
                have n2_ := Aside0.mk (Kd.R_below (by (with_reducible repeat (first | apply Kd.R_alloc | apply Kd.R_drewN | apply Kd.R_drew)); exact HO475.out) hb)
                have n3_ := Aside0.mk (Kd.R_below (by (with_reducible repeat (first | apply Kd.R_alloc | apply Kd.R_drewN | apply Kd.R_drew)); exact HO480.out) hb)
                have n4_ := Aside0.mk (Kd.R_below (by (with_reducible repeat (first | apply Kd.R_alloc | apply Kd.R_drewN | apply Kd.R_drew)); exact HO483.out) hb)
                have n5_ := Aside0.mk (Kd.R_below (by (with_reducible repeat (first | apply Kd.R_alloc | apply Kd.R_drewN | apply Kd.R_drew)); exact HO490.out) hb)
                have n6_ := Aside0.mk (Kd.R_below (by (with_reducible repeat (first | apply Kd.R_alloc | apply Kd.R_drewN | apply Kd.R_drew)); exact HO493.out) hb)
                have n7_ := Aside0.mk (blk_below (g := gb461) (o := .cells #[.int .i64 a0_0, .string a0_1, .slice A0_2 l0_2.length c0_2, .slice A0_3 l0_3.length c0_3] 52 (0, 0)) (by (with_reducible repeat (first | refine blk_drewN ?_ _ | refine blk_drew ?_ | refine blk_alloc ?_ _)); exact BK461.out) hb)
                have n8_ := Aside0.mk (blk_below (g := gb472) (o := .cells #[.int .i64 t464, .string t465, .slice Ao32 t466.length co32, .slice Ao33 t469.length co33] 52 (0, 0)) (by (with_reducible repeat (first | refine blk_drewN ?_ _ | refine blk_drew ?_ | refine blk_alloc ?_ _)); exact BK472.out) hb)
                have n9_ := Aside0.mk (blk_below (g := gb485) (o := .cells #[.int .i64 t476, .string t477, .slice Ao43 t478.length co43, .slice Ao45 t481.length co45] 52 (0, 0)) (by (with_reducible repeat (first | refine blk_drewN ?_ _ | refine blk_drew ?_ | refine blk_alloc ?_ _)); exact BK485.out) hb)
                have n10_ := Aside0.mk (below_step (by repeat (first | (with_reducible first | exact HB.out | apply below_alloc | apply pw_below_drewN | apply below_drew1 | refine below_set ?_ GE461.out | refine below_set ?_ GE472.out | refine below_set ?_ GE485.out) | exact HB.out)) hb)
                clear HO468
                clear HO471
                clear HO475
                clear HO480
                clear HO483
                clear HO490
                clear HO493
                clear BK461
                clear BK472
                clear BK485
                clear HB
                have HO468 := n0_
                have HO471 := n1_
                have HO475 := n2_
                have HO480 := n3_
                have HO483 := n4_
                have HO490 := n5_
                have HO493 := n6_
                have BK461 := n7_
                have BK472 := n8_
                have BK485 := n9_
                have HB := n10_
                clear n0_ n1_ n2_ n3_ n4_ n5_ n6_ n7_ n8_ n9_ n10_
                (try clear hb)
                (try clear hb2)
                (try clear hk)
                (try clear hi)
                refine hK.out _ _ ⟨(blk_cell BK472.out 0).trans rfl, (blk_cell BK472.out 1).trans rfl, (blk_cell BK472.out 2).trans rfl, (blk_cell BK472.out 3).trans rfl, (blk_cell BK461.out 0).trans rfl, (blk_cell BK461.out 1).trans rfl, (blk_cell BK461.out 2).trans rfl, (blk_cell BK461.out 3).trans rfl, (blk_cell BK485.out 0).trans rfl, (blk_cell BK485.out 1).trans rfl, (blk_cell BK485.out 2).trans rfl, (blk_cell BK485.out 3).trans rfl⟩ (fun hHeld => ?_)
                clear hK K
                refine norm_ (a' := ?_) ?_ ?_
                rotate_left
                · show Act.put _ (some 54) _ = _
                  simp only [Act.put, List.setIfInBounds_toArray, List.set_cons_zero, List.set_cons_succ, i64_w, i32_w]
                  rfl
                refine one_ (i := 34) (N := some 56) #[true, true, true, true, true, true, true, true, true, true, true, true, true, true, true, true, true, true, true, true, true, true, true, true, true, true, true, true, true, true, true, true, true, true, true, false, false, false] rfl rfl (one_of HT_.out (by kernel_rfl)) (by decide) (fun K hK => ?_)
                refine goes_ Try.func56 (by kernel_rfl) rfl #[.agg #[.int .i64 a0_0, .string a0_1, .slice A0_2 l0_2.length c0_2, .slice A0_3 l0_3.length c0_3]] (by rfl) rfl rfl (by (try simp only [List.map_toArray, List.map_cons, List.map_nil]); first | done | rfl | (simp only [List.length_drop, List.length_take]; rfl)) ?_
                with_reducible refine (value_Valid.calls a0_0 a0_1 _ _ l0_2 _ _ l0_3 t501 _ ?side1 ?side2 ?side3 ?side4 A22.out).mono ?_
                (case side1 => repeat (first | exact (Kd.C_below HR0_2.out HB.out) | (with_reducible refine Kd.C_alloc ?_ _) | (with_reducible refine Kd.C_drewN ?_ _) | (with_reducible refine Kd.C_drew ?_)))
                (case side2 => exact HC0_2.out)
                (case side3 => repeat (first | exact (Kd.C_below HR0_3.out HB.out) | (with_reducible refine Kd.C_alloc ?_ _) | (with_reducible refine Kd.C_drewN ?_ _) | (with_reducible refine Kd.C_drew ?_)))
                (case side4 => exact HC0_3.out)
                rintro e w59 ⟨rfl, hb⟩
                refine ⟨_, rfl, ?_⟩
                have n0_ := Aside0.mk (Kd.R_below (by (with_reducible repeat (first | apply Kd.R_alloc | apply Kd.R_drewN | apply Kd.R_drew)); exact HO468.out) hb)
                have n1_ := Aside0.mk (Kd.R_below (by (with_reducible repeat (first | apply Kd.R_alloc | apply Kd.R_drewN | apply Kd.R_drew)); exact HO471.out) hb)
                have n2_ := Aside0.mk (Kd.R_below (by (with_reducible repeat (first | apply Kd.R_alloc | apply Kd.R_drewN | apply Kd.R_drew)); exact HO475.out) hb)
                have n3_ := Aside0.mk (Kd.R_below (by (with_reducible repeat (first | apply Kd.R_alloc | apply Kd.R_drewN | apply Kd.R_drew)); exact HO480.out) hb)
                have n4_ := Aside0.mk (Kd.R_below (by (with_reducible repeat (first | apply Kd.R_alloc | apply Kd.R_drewN | apply Kd.R_drew)); exact HO483.out) hb)
                have n5_ := Aside0.mk (Kd.R_below (by (with_reducible repeat (first | apply Kd.R_alloc | apply Kd.R_drewN | apply Kd.R_drew)); exact HO490.out) hb)
                have n6_ := Aside0.mk (Kd.R_below (by (with_reducible repeat (first | apply Kd.R_alloc | apply Kd.R_drewN | apply Kd.R_drew)); exact HO493.out) hb)
                have n7_ := Aside0.mk (blk_below (g := gb461) (o := .cells #[.int .i64 a0_0, .string a0_1, .slice A0_2 l0_2.length c0_2, .slice A0_3 l0_3.length c0_3] 52 (0, 0)) (by (with_reducible repeat (first | refine blk_drewN ?_ _ | refine blk_drew ?_ | refine blk_alloc ?_ _)); exact BK461.out) hb)
                have n8_ := Aside0.mk (blk_below (g := gb472) (o := .cells #[.int .i64 t464, .string t465, .slice Ao32 t466.length co32, .slice Ao33 t469.length co33] 52 (0, 0)) (by (with_reducible repeat (first | refine blk_drewN ?_ _ | refine blk_drew ?_ | refine blk_alloc ?_ _)); exact BK472.out) hb)
                have n9_ := Aside0.mk (blk_below (g := gb485) (o := .cells #[.int .i64 t476, .string t477, .slice Ao43 t478.length co43, .slice Ao45 t481.length co45] 52 (0, 0)) (by (with_reducible repeat (first | refine blk_drewN ?_ _ | refine blk_drew ?_ | refine blk_alloc ?_ _)); exact BK485.out) hb)
                have n10_ := Aside0.mk (below_step (by repeat (first | (with_reducible first | exact HB.out | apply below_alloc | apply pw_below_drewN | apply below_drew1 | refine below_set ?_ GE461.out | refine below_set ?_ GE472.out | refine below_set ?_ GE485.out) | exact HB.out)) hb)
                clear HO468
                clear HO471
                clear HO475
                clear HO480
                clear HO483
                clear HO490
                clear HO493
                clear BK461
                clear BK472
                clear BK485
                clear HB
                have HO468 := n0_
                have HO471 := n1_
                have HO475 := n2_
                have HO480 := n3_
                have HO483 := n4_
                have HO490 := n5_
                have HO493 := n6_
                have BK461 := n7_
                have BK472 := n8_
                have BK485 := n9_
                have HB := n10_
                clear n0_ n1_ n2_ n3_ n4_ n5_ n6_ n7_ n8_ n9_ n10_
                (try clear hb)
                (try clear hb2)
                (try clear hk)
                (try clear hi)
                refine hK.out _ _ ⟨(blk_cell BK472.out 0).trans rfl, (blk_cell BK472.out 1).trans rfl, (blk_cell BK472.out 2).trans rfl, (blk_cell BK472.out 3).trans rfl, (blk_cell BK461.out 0).trans rfl, (blk_cell BK461.out 1).trans rfl, (blk_cell BK461.out 2).trans rfl, (blk_cell BK461.out 3).trans rfl, (blk_cell BK485.out 0).trans rfl, (blk_cell BK485.out 1).trans rfl, (blk_cell BK485.out 2).trans rfl, (blk_cell BK485.out 3).trans rfl⟩ (fun hHeld => ?_)
                clear hK K
                refine norm_ (a' := ?_) ?_ ?_
                rotate_left
                · show Act.put _ (some 56) _ = _
                  simp only [Act.put, List.setIfInBounds_toArray, List.set_cons_zero, List.set_cons_succ, i64_w, i32_w]
                  rfl
                refine pure_ (i := 35) (N := some 57) (v := ?_) (a' := ?_) #[true, true, true, true, true, true, true, true, true, true, true, true, true, true, true, true, true, true, true, true, true, true, true, true, true, true, true, true, true, true, true, true, true, true, true, true, false, false] rfl rfl (any_of HT_.out (by kernel_rfl)) (fun _ _ _ h => h) (Or.inl ⟨by rfl, ?_⟩) ?_ ?_
                rotate_left
                · intro w'
                  go_simp
                  with_reducible rfl
                rotate_left
                · simp only [Act.put, List.setIfInBounds_toArray, List.set_cons_zero, List.set_cons_succ, i64_w, i32_w]
                  rfl
                refine pure_ (i := 36) (N := some 58) (v := ?_) (a' := ?_) #[true, true, true, true, true, true, true, true, true, true, true, true, true, true, true, true, true, true, true, true, true, true, true, true, true, true, true, true, true, true, true, true, true, true, true, true, true, false] rfl rfl (any_of HT_.out (by kernel_rfl)) (fun _ _ _ h => h) (Or.inl ⟨by rfl, ?_⟩) ?_ ?_
                rotate_left
                · intro w'
                  go_simp
                  with_reducible rfl
                rotate_left
                · simp only [Act.put, List.setIfInBounds_toArray, List.set_cons_zero, List.set_cons_succ, i64_w, i32_w]
                  rfl
                refine pure_ (i := 37) (N := some 2) (v := ?_) (a' := ?_) #[true, true, true, true, true, true, true, true, true, true, true, true, true, true, true, true, true, true, true, true, true, true, true, true, true, true, true, true, true, true, true, true, true, true, true, true, true, true] rfl rfl (any_of HT_.out (by kernel_rfl)) (fun _ _ _ h => h) (Or.inl ⟨by rfl, ?_⟩) ?_ ?_
                rotate_left
                · intro w'
                  go_simp
                  with_reducible rfl
                rotate_left
                · simp only [Act.put, List.setIfInBounds_toArray, List.set_cons_zero, List.set_cons_succ, i64_w, i32_w]
                  rfl
                refine done_ (done_of HT_.out (by kernel_rfl)) ?_
                try go_wp2
                go_ret
                exact ⟨by first | rfl | (simp [errW_none, errW_some] <;> rfl) | (simp [*, errW_none, errW_some] <;> rfl), by repeat (first | (with_reducible first | exact HB.out | apply below_alloc | apply pw_below_drewN | apply below_drew1 | refine below_set ?_ GE461.out | refine below_set ?_ GE472.out | refine below_set ?_ GE485.out) | exact HB.out)⟩
              · rw [if_neg c20] at H
                have c20b0 : (t498 == t499) = false := by simpa using c20
                (try (have c20b1 : decide (t498 = t499) = false := by simpa using c20))
                (try (have c20b2 : (t498 == t499) = false := by simpa using c20))
                (try (have c20b3 : ¬ (t498 = t499) := by simpa using c20))
                clear c20
                exact absurd HRT.out (by rw [← Option.some.inj H]; decide)
            · replace c17 := Bool.eq_false_iff.mpr c17
              subst c17
              have H1 : (some false) = some r := by rw [if_neg (show ¬ (false = true) by decide)] at H; exact H
              clear H
              have H := H1
              clear H1
              exact absurd HRT.out (by rw [← Option.some.inj H]; decide)
          · rw [if_neg c15] at H
            have c15b0 : (t484 == t496) = false := by simpa using c15
            (try (have c15b1 : decide (t484 = t496) = false := by simpa using c15))
            (try (have c15b2 : (t484 == t496) = false := by simpa using c15))
            (try (have c15b3 : ¬ (t484 = t496) := by simpa using c15))
            clear c15
            exact absurd HRT.out (by rw [← Option.some.inj H]; decide)
        · replace c13 := Bool.eq_false_iff.mpr c13
          subst c13
          have H1 : (some false) = some r := by rw [if_neg (show ¬ (false = true) by decide)] at H; exact H
          clear H
          have H := H1
          clear H1
          exact absurd HRT.out (by rw [← Option.some.inj H]; decide)
      · replace c11 := Bool.eq_false_iff.mpr c11
        subst c11
        have H1 : (some false) = some r := by rw [if_neg (show ¬ (false = true) by decide)] at H; exact H
        clear H
        have H := H1
        clear H1
        exact absurd HRT.out (by rw [← Option.some.inj H]; decide)
    · replace c8 := Bool.eq_false_iff.mpr c8
      subst c8
      have H1 : (some false) = some r := by rw [if_neg (show ¬ (false = true) by decide)] at H; exact H
      clear H
      have H := H1
      clear H1
      exact absurd HRT.out (by rw [← Option.some.inj H]; decide)
  · replace c4 := Bool.eq_false_iff.mpr c4
    subst c4
    have H1 : (some t462) = some r := by rw [if_neg (show ¬ (false = true) by decide)] at H; exact H
    clear H
    have H := H1
    clear H1
    obtain rfl := Option.some.inj H
    go_enter Try.func19, Try.ntmps19
    go_wp2_with (first | ((with_reducible refine gate_dst (N := 1) rfl ?_); refine box_event ?hg (N := 1) ?hd (cs := #[.int .i64 a0_0, .string a0_1, .slice A0_2 l0_2.length c0_2, .slice A0_3 l0_3.length c0_3]) (t := 52) ?hr ?_; (case hd => rfl); (case hg => rfl); (case hr => first | (go_simp; done) | (go_simp; rfl)); intro gb461 hg w247 hbox hb; have n0_ := Aside0.mk (below_step (by repeat (first | (with_reducible first | exact HB.out | apply below_alloc | apply pw_below_drewN | apply below_drew1) | exact HB.out)) hb); have n1_ := Aside0.mk (hbox); have n2_ := Aside0.mk ((by rw [hg]; exact (below_size (by repeat (first | (with_reducible first | exact HB.out | apply below_alloc | apply pw_below_drewN | apply below_drew1) | exact HB.out))) : w.heap.size ≤ gb461)); have n3_ := Aside0.mk ((by rw [hg]; exact (below_size (by repeat (first | (with_reducible first | exact HB.out | apply below_alloc | apply pw_below_drewN | apply below_drew1) | exact HB.out))) : w.heap.size ≤ gb461)); clear HB; have HB := n0_; have BK461 := n1_; have GW461 := n2_; have GE461 := n3_; clear n0_ n1_ n2_ n3_; clear hb hbox hg) | ((with_reducible refine gate_callee (f := 43) rfl ?_); refine goesL_ (some 7) rfl rfl Try.func43 (by kernel_rfl) rfl #[] rfl (by (try simp only [List.map_toArray, List.map_cons, List.map_nil]); first | done | rfl | (simp only [List.length_drop, List.length_take]; rfl)) ?_; (with_reducible refine (phalaropelaw08_awake.calls k  t462 _ A2.out).mono ?_); rintro e w248 ⟨rfl, hb⟩; refine ⟨_, rfl, ?_⟩; have n0_ := Aside0.mk (blk_below (g := gb461) (o := .cells #[.int .i64 a0_0, .string a0_1, .slice A0_2 l0_2.length c0_2, .slice A0_3 l0_3.length c0_3] 52 (0, 0)) (by (with_reducible repeat (first | refine blk_drewN ?_ _ | refine blk_drew ?_ | refine blk_alloc ?_ _)); exact BK461.out) hb); have n1_ := Aside0.mk (below_step (by repeat (first | (with_reducible first | exact HB.out | apply below_alloc | apply pw_below_drewN | apply below_drew1 | refine below_set ?_ GE461.out) | exact HB.out)) hb); clear BK461; clear HB; have BK461 := n0_; have HB := n1_; clear n0_ n1_; (try clear hb); (try clear hb2); (try clear hk); (try clear hi); have hcz249_0 : w248.cell? ⟨gb461, 0, none⟩ = some (.int .i64 a0_0) := (blk_cell BK461.out 0).trans rfl; have hcz249_1 : w248.cell? ⟨gb461, 1, none⟩ = some (.string a0_1) := (blk_cell BK461.out 1).trans rfl; have hcz249_2 : w248.cell? ⟨gb461, 2, none⟩ = some (.slice A0_2 l0_2.length c0_2) := (blk_cell BK461.out 2).trans rfl; have hcz249_3 : w248.cell? ⟨gb461, 3, none⟩ = some (.slice A0_3 l0_3.length c0_3) := (blk_cell BK461.out 3).trans rfl; have hfz249_0 := blk_frozen BK461.out 0; have hfz249_1 := blk_frozen BK461.out 1; have hfz249_2 := blk_frozen BK461.out 2; have hfz249_3 := blk_frozen BK461.out 3) | ((with_reducible refine gate_callee (f := 49) rfl ?_); refine goesL_ (some 9) rfl rfl Try.func49 (by kernel_rfl) rfl #[.agg #[.int .i64 a0_0, .string a0_1, .slice A0_2 l0_2.length c0_2, .slice A0_3 l0_3.length c0_3]] rfl (by (try simp only [List.map_toArray, List.map_cons, List.map_nil]); first | done | rfl | (simp only [List.length_drop, List.length_take]; rfl)) ?_; (with_reducible refine (phalaroperef08_Few.calls k a0_0 a0_1 _ _ l0_2 _ _ l0_3 false _ ?side1 ?side2 ?side3 ?side4 A3.out).mono ?_); (case side1 => repeat (first | exact (Kd.C_below HR0_2.out HB.out) | (with_reducible refine Kd.C_alloc ?_ _) | (with_reducible refine Kd.C_drewN ?_ _) | (with_reducible refine Kd.C_drew ?_))); (case side2 => exact HC0_2.out); (case side3 => repeat (first | exact (Kd.C_below HR0_3.out HB.out) | (with_reducible refine Kd.C_alloc ?_ _) | (with_reducible refine Kd.C_drewN ?_ _) | (with_reducible refine Kd.C_drew ?_))); (case side4 => exact HC0_3.out); rintro e w250 ⟨rfl, hb⟩; refine ⟨_, rfl, ?_⟩; have n0_ := Aside0.mk (blk_below (g := gb461) (o := .cells #[.int .i64 a0_0, .string a0_1, .slice A0_2 l0_2.length c0_2, .slice A0_3 l0_3.length c0_3] 52 (0, 0)) (by (with_reducible repeat (first | refine blk_drewN ?_ _ | refine blk_drew ?_ | refine blk_alloc ?_ _)); exact BK461.out) hb); have n1_ := Aside0.mk (below_step (by repeat (first | (with_reducible first | exact HB.out | apply below_alloc | apply pw_below_drewN | apply below_drew1 | refine below_set ?_ GE461.out) | exact HB.out)) hb); clear BK461; clear HB; have BK461 := n0_; have HB := n1_; clear n0_ n1_; (try clear hb); (try clear hb2); (try clear hk); (try clear hi)))
    go_ret
    exact ⟨by first | rfl | (simp [errW_none, errW_some] <;> rfl) | (simp [*, errW_none, errW_some] <;> rfl), by repeat (first | (with_reducible first | exact HB.out | apply below_alloc | apply pw_below_drewN | apply below_drew1 | refine below_set ?_ GE461.out) | exact HB.out)⟩

end Go.Proofs.Ytjjmfmlgemdjkaa.PVal

