/- The contracts of pct.Digit, value, Triplet and One, and of the reference's One. -/
import Derived.Test.YtmondgamackcgaaDoorPctPlain
import Derived.WalkSmall
import Derived.Lib.OthersKept
namespace Go.Proofs.YtmondgamackcgaaDoor
open Go.RowKit

def digitU (c : Nat) : Nat × Bool := match hexV c with | some x => (x, true) | none => (0, false)
theorem digitU_1 {c : Nat} (h : 48 ≤ c ∧ c ≤ 57) : digitU c = (c - 48, true) := by unfold digitU hexV; rw [if_pos h]
theorem digitU_2 {c : Nat} (h : 65 ≤ c ∧ c ≤ 70) : digitU c = (c - 55, true) := by unfold digitU hexV; rw [if_neg (by omega), if_pos h]
theorem digitU_3 {c : Nat} (h : 97 ≤ c ∧ c ≤ 102) : digitU c = (c - 87, true) := by unfold digitU hexV; rw [if_neg (by omega), if_neg (by omega), if_pos h]
theorem digitU_4 {c : Nat} (h : ¬ (48 ≤ c ∧ c ≤ 57)) (h' : ¬ (65 ≤ c ∧ c ≤ 70)) (h'' : ¬ (97 ≤ c ∧ c ≤ 102)) : digitU c = (0, false) := by unfold digitU hexV; rw [if_neg h, if_neg h', if_neg h'']

set_option maxHeartbeats 2000000 in
theorem digit_in (c : Nat) (hc : c < 256) (w : World) :
    Calls Tryd.prog 44 #[.int .u8 c] w fun e w' => e = .returned (.tuple #[.int .i64 (digitU c).1, .bool (digitU c).2]) ∧ Below w.heap.size w w' := by
  obtain ⟨x, hx⟩ : ∃ x : Int, x = (c : Int) := ⟨_, rfl⟩
  rw [← hx]
  have hr : c < 48 ∨ (48 ≤ c ∧ c ≤ 57) ∨ (57 < c ∧ c < 65) ∨ (65 ≤ c ∧ c ≤ 70) ∨ (70 < c ∧ c < 97) ∨ (97 ≤ c ∧ c ≤ 102) ∨ 102 < c := by omega
  rcases hr with h | h | h | h | h | h | h
  · rw [digitU_4 (by omega) (by omega) (by omega)]
    have : decide (48 ≤ x) = false := decide_eq_false (by omega)
    have : decide (x ≤ 57) = true := decide_eq_true (by omega)
    have : decide (65 ≤ x) = false := decide_eq_false (by omega)
    have : decide (x ≤ 70) = true := decide_eq_true (by omega)
    have : decide (97 ≤ x) = false := decide_eq_false (by omega)
    have : decide (x ≤ 102) = true := decide_eq_true (by omega)
    clear h hx hc
    go_enter Tryd.func44, Tryd.ntmps44
    go_wp2
    go_ret2
    exact ⟨rfl, Below.refl _ _⟩
  · rw [digitU_1 h]
    have : decide (48 ≤ x) = true := decide_eq_true (by omega)
    have : decide (x ≤ 57) = true := decide_eq_true (by omega)
    have : decide (65 ≤ x) = false := decide_eq_false (by omega)
    have : decide (x ≤ 70) = true := decide_eq_true (by omega)
    have : decide (97 ≤ x) = false := decide_eq_false (by omega)
    have : decide (x ≤ 102) = true := decide_eq_true (by omega)
    have HX := Lib.hid (show (x - 48) % 256 = ((c - 48 : Nat) : Int) from by omega)
    have : 0 ≤ x := by omega
    have : x ≤ 255 := by omega
    clear h hx hc
    go_enter Tryd.func44, Tryd.ntmps44
    go_wp2
    go_ret2
    refine ⟨?_, Below.refl _ _⟩
    show Ending.returned (Value.tuple #[Value.int .i64 ((x - 48) % 256), .bool true]) = _
    rw [HX.out]
  · rw [digitU_4 (by omega) (by omega) (by omega)]
    have : decide (48 ≤ x) = true := decide_eq_true (by omega)
    have : decide (x ≤ 57) = false := decide_eq_false (by omega)
    have : decide (65 ≤ x) = false := decide_eq_false (by omega)
    have : decide (x ≤ 70) = true := decide_eq_true (by omega)
    have : decide (97 ≤ x) = false := decide_eq_false (by omega)
    have : decide (x ≤ 102) = true := decide_eq_true (by omega)
    clear h hx hc
    go_enter Tryd.func44, Tryd.ntmps44
    go_wp2
    go_ret2
    exact ⟨rfl, Below.refl _ _⟩
  · rw [digitU_2 h]
    have : decide (48 ≤ x) = true := decide_eq_true (by omega)
    have : decide (x ≤ 57) = false := decide_eq_false (by omega)
    have : decide (65 ≤ x) = true := decide_eq_true (by omega)
    have : decide (x ≤ 70) = true := decide_eq_true (by omega)
    have : decide (97 ≤ x) = false := decide_eq_false (by omega)
    have : decide (x ≤ 102) = true := decide_eq_true (by omega)
    have HX := Lib.hid (show (x - 65) % 256 + 10 = ((c - 55 : Nat) : Int) from by omega)
    have : 0 ≤ x := by omega
    have : x ≤ 255 := by omega
    clear h hx hc
    go_enter Tryd.func44, Tryd.ntmps44
    go_wp2
    go_ret2
    refine ⟨?_, Below.refl _ _⟩
    show Ending.returned (Value.tuple #[Value.int .i64 ((x - 65) % 256 + 10), .bool true]) = _
    rw [HX.out]
  · rw [digitU_4 (by omega) (by omega) (by omega)]
    have : decide (48 ≤ x) = true := decide_eq_true (by omega)
    have : decide (x ≤ 57) = false := decide_eq_false (by omega)
    have : decide (65 ≤ x) = true := decide_eq_true (by omega)
    have : decide (x ≤ 70) = false := decide_eq_false (by omega)
    have : decide (97 ≤ x) = false := decide_eq_false (by omega)
    have : decide (x ≤ 102) = true := decide_eq_true (by omega)
    clear h hx hc
    go_enter Tryd.func44, Tryd.ntmps44
    go_wp2
    go_ret2
    exact ⟨rfl, Below.refl _ _⟩
  · rw [digitU_3 h]
    have : decide (48 ≤ x) = true := decide_eq_true (by omega)
    have : decide (x ≤ 57) = false := decide_eq_false (by omega)
    have : decide (65 ≤ x) = true := decide_eq_true (by omega)
    have : decide (x ≤ 70) = false := decide_eq_false (by omega)
    have : decide (97 ≤ x) = true := decide_eq_true (by omega)
    have : decide (x ≤ 102) = true := decide_eq_true (by omega)
    have HX := Lib.hid (show (x - 97) % 256 + 10 = ((c - 87 : Nat) : Int) from by omega)
    have : 0 ≤ x := by omega
    have : x ≤ 255 := by omega
    clear h hx hc
    go_enter Tryd.func44, Tryd.ntmps44
    go_wp2
    go_ret2
    refine ⟨?_, Below.refl _ _⟩
    show Ending.returned (Value.tuple #[Value.int .i64 ((x - 97) % 256 + 10), .bool true]) = _
    rw [HX.out]
  · rw [digitU_4 (by omega) (by omega) (by omega)]
    have : decide (48 ≤ x) = true := decide_eq_true (by omega)
    have : decide (x ≤ 57) = false := decide_eq_false (by omega)
    have : decide (65 ≤ x) = true := decide_eq_true (by omega)
    have : decide (x ≤ 70) = false := decide_eq_false (by omega)
    have : decide (97 ≤ x) = true := decide_eq_true (by omega)
    have : decide (x ≤ 102) = false := decide_eq_false (by omega)
    clear h hx hc
    go_enter Tryd.func44, Tryd.ntmps44
    go_wp2
    go_ret2
    exact ⟨rfl, Below.refl _ _⟩

/-- The bytes of a text. -/
theorem get_bt (s : ByteArray) (i : Nat) : ((s.get! i).toNat : Int) = (((nats s).getD i 0 : Nat) : Int) := by rw [nats_get]
def tripU (s : ByteArray) : Option Nat := trip (nats s)
theorem trip_short {s : ByteArray} (h : s.size < 3) : tripU s = none := by
  unfold tripU
  cases ht : trip (nats s) with
  | none => rfl
  | some v =>
    obtain ⟨a, b, r, x, y, e, _⟩ := trip_cons ht
    have := congrArg List.length e
    rw [nats_len] at this
    simp at this
    omega
theorem trip_not {s : ByteArray} (h : (nats s).getD 0 0 ≠ 37) : tripU s = none := by
  unfold tripU
  cases ht : trip (nats s) with
  | none => rfl
  | some v =>
    obtain ⟨a, b, r, x, y, e, _⟩ := trip_cons ht
    rw [e] at h
    exact absurd rfl h
theorem trip_is {s : ByteArray} (h : 3 ≤ s.size) (h0 : (nats s).getD 0 0 = 37) : tripU s = (match hexV ((nats s).getD 1 0), hexV ((nats s).getD 2 0) with | some x, some y => some (16 * x + y) | _, _ => none) := by
  unfold tripU
  match hl : nats s with
  | [] => have := nats_len s; rw [hl] at this; simp at this; omega
  | [_] => have := nats_len s; rw [hl] at this; simp at this; omega
  | [_, _] => have := nats_len s; rw [hl] at this; simp at this; omega
  | c :: a :: b :: r =>
    rw [hl] at h0
    obtain rfl : c = 37 := h0
    simp only [trip, if_true]
    rfl
theorem byte_lt (s : ByteArray) (i : Nat) : (nats s).getD i 0 < 256 := by
  rw [← nats_get]
  exact UInt8.toNat_lt _

theorem byte_at (s : ByteArray) (i : Nat) (h : i < s.size) (w : World) : (Instr.index 9 (.string s) (.int .i64 i)).run Tryd.prog w = .ok (.int .u8 ((nats s).getD i 0 : Nat)) w := by
  rw [← nats_get]
  have e : s.get! i = s[i] := by
    cases s
    unfold ByteArray.get!
    exact getElem!_pos _ i h
  rw [e, run_index_string (P := Tryd.prog) w 9 s .i64 (i : Int) Tryd.underlying9, dif_pos (show 0 ≤ (i : Int) ∧ (i : Int) < (s.size : Int) by omega)]
  rfl

set_option maxHeartbeats 2000000 in
theorem value_any (s : ByteArray) (hs : s.size ≤ 9223372036854775807) (w : World) :
    Calls Tryd.prog 36 #[.string s] w fun e w' => (∃ x : Nat, e = .returned (.tuple #[.int .u8 x, .bool (tripU s).isSome]) ∧ ∀ v, tripU s = some v → x = v) ∧ Below w.heap.size w w' := by
  by_cases h3 : s.size < 3
  · rw [trip_short h3]
    go_enter Tryd.func36, Tryd.ntmps36
    go_wp2
    go_ret2
    first | exact ⟨⟨0, rfl⟩, Below.refl _ _⟩ | exact ⟨⟨0, rfl, fun v h => by cases h⟩, Below.refl _ _⟩
  · have h3' : 3 ≤ s.size := by omega
    have i0 : ∀ w, (Instr.index 9 (.string s) (.int .i64 0)).run Tryd.prog w = .ok (.int .u8 ((nats s).getD 0 0 : Nat)) w := fun w => byte_at s 0 (by omega) w
    have i1 : ∀ w, (Instr.index 9 (.string s) (.int .i64 1)).run Tryd.prog w = .ok (.int .u8 ((nats s).getD 1 0 : Nat)) w := fun w => byte_at s 1 (by omega) w
    have i2 : ∀ w, (Instr.index 9 (.string s) (.int .i64 2)).run Tryd.prog w = .ok (.int .u8 ((nats s).getD 2 0 : Nat)) w := fun w => byte_at s 2 (by omega) w
    have c0 := byte_lt s 0
    have c1 := digit_in _ (byte_lt s 1)
    have c2 := digit_in _ (byte_lt s 2)
    have b1 := byte_lt s 1
    have b2 := byte_lt s 2
    have hN := @trip_not s
    have hI := @trip_is s h3'
    generalize (nats s).getD 0 0 = x0 at i0 c0 hN hI
    generalize (nats s).getD 1 0 = x1 at i1 c1 hI b1
    generalize (nats s).getD 2 0 = x2 at i2 c2 hI b2
    have d : decide ((s.size : Int) < 3) = false := decide_eq_false (by omega)
    by_cases h0 : x0 = 37
    · have e := hI h0
      have hne : ((x0 : Int) != 37) = false := by subst h0; rfl
      have HE := Lib.hid e
      have hl1 : (digitU x1).1 < 16 := by unfold digitU; cases h : hexV x1 with | none => exact (by decide : 0 < 16) | some y => exact hexV_lt h
      have hl2 : (digitU x2).1 < 16 := by unfold digitU; cases h : hexV x2 with | none => exact (by decide : 0 < 16) | some y => exact hexV_lt h
      have HT : Hid ((tripU s).isSome = ((digitU x1).2 && (digitU x2).2) ∧ ∀ v, tripU s = some v → 16 * (digitU x1).1 + (digitU x2).1 = v) := by
        refine Lib.hid ?_
        rw [e]
        unfold digitU
        cases hexV x1 with
        | none => exact ⟨rfl, fun v h => by cases h⟩
        | some y => cases hexV x2 with
          | none => exact ⟨rfl, fun v h => by cases h⟩
          | some z => exact ⟨rfl, fun v h => by injection h⟩
      clear e hI hN h0 HE c0
      rw [HT.out.1]
      generalize digitU x1 = p1 at c1 HT hl1
      generalize digitU x2 = p2 at c2 HT hl2
      obtain ⟨y1, q1⟩ := p1
      obtain ⟨y2, q2⟩ := p2
      simp only at c1 c2 hl1 hl2
      have hm : IntKind.u8.wrap (16 * (y1 : Int) + y2) = 16 * (y1 : Int) + y2 := by rw [IntKind.wrap_u8']; omega
      have fin : ∀ q, q = (q1 && q2) → ((∃ x : Nat, Ending.returned (Value.tuple #[.int .u8 (16 * (y1 : Int) + y2), .bool q]) = .returned (.tuple #[.int .u8 x, .bool (q1 && q2)]) ∧ ∀ v, tripU s = some v → x = v) ) := by
        rintro q rfl
        exact ⟨16 * y1 + y2, rfl, HT.out.2⟩
      cases q1 <;> cases q2
      all_goals
        go_enter Tryd.func36, Tryd.ntmps36
        go_wp2_with (first | (go_at_call 44; (with_reducible refine (c1 _).mono ?_); rintro e w1 ⟨rfl, hb1⟩) | (go_at_call 44; (with_reducible refine (c2 _).mono ?_); rintro e w2 ⟨rfl, hb2⟩))
        go_ret2
        refine ⟨?_, below_after hb1 hb2⟩
        exact fin _ rfl
    · rw [hN h0]
      have hne : ((x0 : Int) != 37) = true := by simp; omega
      clear hI hN h0
      go_enter Tryd.func36, Tryd.ntmps36
      go_wp2
      go_ret2
      first | exact ⟨⟨0, rfl⟩, Below.refl _ _⟩ | exact ⟨⟨0, rfl, fun v h => by cases h⟩, Below.refl _ _⟩
theorem triplet_any (s : ByteArray) (hs : s.size ≤ 9223372036854775807) (w : World) :
    Calls Tryd.prog 27 #[.string s] w fun e w' => e = .returned (.bool (tripU s).isSome) ∧ Below w.heap.size w w' := by
  have c := value_any s hs
  go_enter Tryd.func27, Tryd.ntmps27
  go_wp2_with fail
  refine (c _).mono ?_
  rintro e w1 ⟨⟨x, rfl, _⟩, hb1⟩
  go_wp2
  go_ret
  exact ⟨rfl, hb1⟩

def digits : ByteArray := ⟨#[48, 49, 50, 51, 52, 53, 54, 55, 56, 57, 65, 66, 67, 68, 69, 70]⟩
theorem digits_at (n : Nat) (h : n < 16) (w : World) : (Instr.index 9 (.string ⟨#[48, 49, 50, 51, 52, 53, 54, 55, 56, 57, 65, 66, 67, 68, 69, 70]⟩) (.int .u8 n)).run Tryd.prog w = .ok (.int .u8 (upD n : Nat)) w := by
  have hd : ∀ n : Nat, n < 16 → digits.get! n = UInt8.ofNat (upD n) := by decide
  rw [show (⟨#[48, 49, 50, 51, 52, 53, 54, 55, 56, 57, 65, 66, 67, 68, 69, 70]⟩ : ByteArray) = digits from rfl, run_index_string (P := Tryd.prog) w 9 digits .u8 (n : Int) Tryd.underlying9, dif_pos (show 0 ≤ (n : Int) ∧ (n : Int) < (digits.size : Int) from ⟨by omega, by show (n : Int) < 16; omega⟩)]
  have e : digits.get! n = digits[n]'h := getElem!_pos digits.data n h
  have := e.symm.trans (hd n h)
  have h2 := upD_lt h
  refine congrArg (fun z : Int => Result.ok (Value.int .u8 z) w) ?_
  show ((digits[n]'h).toNat : Int) = _
  rw [this, UInt8.toNat_ofNat']
  omega
theorem nat8 (n : Nat) (h : n < 256) : ((UInt8.ofNat n).toNat : Int) = (n : Int) := by rw [UInt8.toNat_ofNat']; omega
theorem row3 (w : World) (y1 y2 : Nat) (l1 : y1 < 256) (l2 : y2 < 256) : (convert 27 9 (.slice (some ⟨w.heap.size, 0, none⟩) 3 3)).run Tryd.prog (w.alloc (.cells #[.int .u8 37, .int .u8 (y1 : Nat), .int .u8 (y2 : Nat)] 5)).drew = .ok (.string (bytesN [37, y1, y2])) (w.alloc (.cells #[.int .u8 37, .int .u8 (y1 : Nat), .int .u8 (y2 : Nat)] 5)).drew := by
  refine run_convert_bytes_back _ 27 9 5 ⟨w.heap.size, 0, none⟩ 3 (bytesU [37, y1, y2]) Tryd.underlying27 Tryd.underlying5 Tryd.underlying9 fun j hj => ?_
  have hc := cell_alloc w #[.int .u8 37, .int .u8 (y1 : Nat), .int .u8 (y2 : Nat)] 5
  match j, hj with
  | 0, _ => exact hc 0
  | 1, _ => exact (hc 1).trans (congrArg (fun z => some (Value.int .u8 z)) (nat8 y1 l1).symm)
  | 2, _ => exact (hc 2).trans (congrArg (fun z => some (Value.int .u8 z)) (nat8 y2 l2).symm)
  | n + 3, hj => exact absurd hj (by simp [bytesU])
end Go.Proofs.YtmondgamackcgaaDoor
