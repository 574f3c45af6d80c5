/- The contracts of utf.May and Text. -/
import Derived.Test.YtjjmfmlgemdjkaaUtfA
import Derived.WalkLawsBesides
namespace Go.Proofs.Ytjjmfmlgemdjkaa
open Go.RowKit

def mayI (c : Int) : Bool := decide (0 ≤ c) && decide (c ≤ 1114111) && (decide (c < 55296) || decide (57343 < c))
theorem ret_bool {a b : Bool} (h : a = b) : Ending.returned (.bool a) = .returned (.bool b) := by rw [h]

set_option maxHeartbeats 1000000 in
theorem may_any (c : Int) (w : World) : Calls Try.prog 24 #[.int .i64 c] w fun e w' => e = .returned (.bool (mayI c)) ∧ Below w.heap.size w w' := by
  rcases (show c < 0 ∨ (0 ≤ c ∧ c < 55296) ∨ (55296 ≤ c ∧ c ≤ 57343) ∨ (57343 < c ∧ c ≤ 1114111) ∨ 1114111 < c from by omega) with h | ⟨h, h'⟩ | ⟨h, h'⟩ | ⟨h, h'⟩ | h
  · have hv : mayI c = false := by unfold mayI; simp; omega
    rw [hv]; clear hv
    go_enter Try.func24, Try.ntmps24
    go_wp2
    go_ret
    exact ⟨by first | rfl | exact ret_bool (by simp; omega), Below.refl _ _⟩
  · have hv : mayI c = true := by unfold mayI; simp; omega
    rw [hv]; clear hv
    go_enter Try.func24, Try.ntmps24
    go_wp2
    go_ret
    exact ⟨by first | rfl | exact ret_bool (by simp; omega), Below.refl _ _⟩
  · have hv : mayI c = false := by unfold mayI; simp; omega
    rw [hv]; clear hv
    go_enter Try.func24, Try.ntmps24
    go_wp2
    go_ret
    exact ⟨by first | rfl | exact ret_bool (by simp; omega), Below.refl _ _⟩
  · have hv : mayI c = true := by unfold mayI; simp; omega
    rw [hv]; clear hv
    go_enter Try.func24, Try.ntmps24
    go_wp2
    go_ret
    exact ⟨by first | rfl | exact ret_bool (by simp; omega), Below.refl _ _⟩
  · have hv : mayI c = false := by unfold mayI; simp; omega
    rw [hv]; clear hv
    go_enter Try.func24, Try.ntmps24
    go_wp2
    go_ret
    exact ⟨by first | rfl | exact ret_bool (by simp; omega), Below.refl _ _⟩

def runeV (c : Int) : Value := .int .i32 c
theorem infoRune : (Try.prog.info? 21).map (fun i => (i.zero, i.size, i.bytes)) = some (some (.int .i32 0), 1, 4) := by kernel_rfl

/-- 'string(b)' of runes that the call owns. -/
theorem own_runes {w : World} {base n : Nat} {v : Value} {l : List Int} (h : w.ownsRow base 21 1 v n (l.map runeV)) : (convert 64 9 v).run Try.prog w = .ok (.string (runesBytes l)) w := by
  have hl : l.length = n := by have := h.1; simpa using this
  rcases h.2 with ⟨rfl, rfl⟩ | ⟨g, cap, cur, rfl, _⟩
  · obtain rfl : l = [] := List.eq_nil_of_length_eq_zero hl
    exact run_convert_runes_nil w 64 9 21 0 0 Try.underlying64 Try.underlying21 Try.underlying9
  · have hc := h.cells (g := g) rfl
    subst hl
    have := run_convert_runes (P := Try.prog) w 64 9 21 ⟨g, 0, none⟩ l.length cap l (Nat.le_refl _) Try.underlying64 Try.underlying21 Try.underlying9 fun j hj => hc j _ (by simp [runeV, List.getElem?_eq_getElem hj, List.getD_eq_getElem?_getD])
    rw [List.take_length] at this
    exact this

def textU (l : List Int) : ByteArray × Bool := if l.all mayI then (runesBytes l, true) else (⟨#[]⟩, false)

theorem all_take {l : List Int} {k : Nat} (h : (l.take k).all mayI = true) (hk : k < l.length) (hm : mayI (l.getD k 0) = true) : (l.take (k + 1)).all mayI = true := by
  rw [List.take_succ_eq_append_getElem hk, List.all_append, h]
  simpa [List.getD_eq_getElem?_getD, hk] using hm
theorem all_no {l : List Int} {k : Nat} (hk : k < l.length) (hm : mayI (l.getD k 0) = false) : textU l = (⟨#[]⟩, false) := by
  unfold textU
  rw [if_neg]
  intro h
  have h1 := List.all_eq_true.1 h (l.getD k 0) (by simp [List.getD_eq_getElem?_getD, hk])
  rw [hm] at h1
  exact Bool.noConfusion h1

set_option maxRecDepth 100000 in
set_option maxHeartbeats 2000000 in
theorem text_any (l : List Int) (hl : l.length ≤ 1000000) (A : Option Addr) (cap : Nat) (w : World) (hcell : ∀ i, i < l.length → ∃ ad : Addr, A = some ad ∧ w.cell? (ad.add i) = some (.int .i64 (l.getD i 0))) :
    Calls Try.prog 22 #[.slice A l.length cap] w fun e w' => e = .returned (.tuple #[.string (textU l).1, .bool (textU l).2]) ∧ Below w.heap.size w w' := by
  obtain ⟨i0, hi, hz0, hz1, hz2⟩ := info_parts infoRune
  have hM := may_any
  go_enter Try.func22, Try.ntmps22
  go_wp2
  go_loopw [2, 3, 4, 9] (fun r q v i wr => ∃ k : Nat, k ≤ l.length ∧ r = .string ⟨#[]⟩ ∧ q = .bool false ∧ i = .int .i64 k ∧ wr.ownsRow w.heap.size 21 1 v k ((l.take k).map runeV) ∧ Hid ((l.take k).all mayI = true) ∧ Below w.heap.size w wr) (fun _ _ _ i _ => l.length - (intOf i).toNat)
  case atStart => exact ⟨0, Nat.zero_le _, rfl, rfl, rfl, World.ownsRow_nil _ _ _ _, Lib.hid rfl, Below.refl _ _⟩
  case round =>
    obtain ⟨k, hk, rfl, rfl, rfl, hown, HA, hbel⟩ := hrel
    by_cases hlt : k < l.length
    · obtain ⟨ad, rfl, hc0⟩ := hcell k hlt
      have hc1 : wr.cell? (ad.add k) = some (.int .i64 (l.getD k 0)) := (hbel.cell (World.block_lt_of_cell? w _ hc0)).trans hc0
      obtain ⟨x, hx⟩ : ∃ x, x = l.getD k 0 := ⟨_, rfl⟩
      rw [← hx] at hc1
      have Hx := Lib.hid hx
      clear hcell hc0
      cases hm : mayI x with
      | false =>
        have hMx := hM x
        rw [hm] at hMx
        have Hno := Lib.hid (all_no hlt (by rw [← hx]; exact hm))
        have HMx := Lib.hid hMx
        clear hm hx hMx hM
        go_wp2_with (go_at_call 24; (with_reducible refine (HMx.out _).mono ?_); rintro e w2 ⟨rfl, hb2⟩)
        go_ret2
        exact ⟨by rw [Hno.out]; rfl, below_after hbel hb2⟩
      | true =>
        have hMx := hM x
        rw [hm] at hMx
        have HA2 := Lib.hid (all_take HA.out hlt (by rw [← hx]; exact hm))
        have hb0 : 0 ≤ x := by unfold mayI at hm; simp at hm; omega
        have hb1 : x ≤ 1114111 := by unfold mayI at hm; simp at hm; omega
        have HMx := Lib.hid hMx
        have Hts := Lib.hid (List.take_succ_eq_append_getElem hlt)
        have Hxk : Hid (l[k] = x) := by rw [hx]; exact Lib.hid (by simp [List.getD_eq_getElem?_getD, hlt])
        clear hm hx hMx hM
        go_wp2_with (first | (go_at_call 24; (with_reducible refine (HMx.out _).mono ?_); rintro e w2 ⟨rfl, hb2⟩; have hown2 := own_below hown hb2; have hsz2 := hb2.size; have hsz := hbel.size) | (at_builtin; refine wpList_append_own _ rfl _ _ 64 rfl w.heap.size 21 i0 (.int .i32 0) 1 4 Try.underlying64 hi hz0 hz1 hz2 rfl (by decide) _ _ _ rfl (hown2.alloc _) ⟨w2.heap.size, 0, none⟩ 1 1 [.int .i32 x] rfl rfl (cell_one _ _ _) (by simp [Value.oneCell']) (by unfold maxLen; omega) (by omega) (by simp; omega) ?_; intro v' w3 hown3 hgrow _))
        have hb3 : Below w.heap.size wr w3 := below_append hsz hb2 hgrow hown (Nat.le_refl _)
        have R : w3.ownsRow w.heap.size 21 1 v' (k + 1) ((l.take (k + 1)).map runeV) := by rw [Hts.out, List.map_append, Hxk.out]; exact hown3
        clear hown hown2 hown3 hgrow
        go_wp2
        go_roundw
        case rel => exact ⟨k + 1, by omega, rfl, rfl, by go_num, R, HA2, hbel.trans hb3⟩
        case measure => simp [intOf]; omega
    · obtain rfl : k = l.length := by omega
      have h1 := HA.out
      rw [List.take_length] at h1 hown
      have hconv := own_runes hown
      have Ht : Hid (textU l = (runesBytes l, true)) := Lib.hid (by unfold textU; rw [if_pos h1])
      clear h1 hown HA hcell
      go_wp2
      go_ret2
      exact ⟨by rw [Ht.out]; rfl, hbel⟩
end Go.Proofs.Ytjjmfmlgemdjkaa
