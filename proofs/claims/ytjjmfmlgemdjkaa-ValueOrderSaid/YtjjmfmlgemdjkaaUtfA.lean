/- The contracts of utf.each, with each of the three closures. -/
import Derived.Test.YtjjmfmlgemdjkaaUtfB
namespace Go.Proofs.Ytjjmfmlgemdjkaa
open Go.RowKit

theorem cut3 (s : ByteArray) (p : Nat) (h : p + 3 ≤ s.size) (w : World) :
    (Instr.slice 9 (.string s) (some (.int .i64 p)) (some (.int .i64 ((p : Int) + 3))) none).run Try.prog w = .ok (.string (s.extract p (p + 3))) w := by
  have h1 := run_slice_string (P := Try.prog) w 9 s .i64 .i64 p ((p : Int) + 3) Try.underlying9 (by omega) (by omega) (by omega)
  rw [h1]
  have e1 : ((p : Int)).toNat = p := by omega
  have e2 : ((p : Int) + 3).toNat = p + 3 := by omega
  rw [e1, e2]

/-- What the test of a round says, as the walk asks it. -/
theorem stop_short {s : ByteArray} {p : Nat} (hc : (Utf8.decode s p).1 = 65533) (h : s.size - p < 3) : stopB s p = true := by unfold stopB; simp [hc, h]
theorem stop_other {s : ByteArray} {p : Nat} (hc : (Utf8.decode s p).1 = 65533) (h : ((s.extract p (p + 3)).toList == [239, 191, 189]) = false) : stopB s p = true := by unfold stopB; simp [hc, h]
theorem go_wrong {s : ByteArray} {p : Nat} (h3 : ¬ s.size - p < 3) (h : ((s.extract p (p + 3)).toList == [239, 191, 189]) = true) : stopB s p = false := by unfold stopB; simp [h3, h]
theorem go_other {s : ByteArray} {p : Nat} (hc : ¬ (Utf8.decode s p).1 = 65533) : stopB s p = false := by unfold stopB; simp [hc]

/-- One step of a range over s: the world behind it, under a name. -/
theorem next_named {w : World} {k : Nat} {s : ByteArray} {pos : Nat} (hit : w.heap[k]? = some (.stringIter s pos)) (hp : pos < s.size) :
    ∃ wi, (∀ ty, (Instr.next (.pointer (some ⟨k, 0, none⟩)) true ty).run Try.prog w = .ok (.tuple #[.bool true, .int .i64 pos, .int .i32 (Utf8.decode s pos).1]) wi) ∧ wi.heap[k]? = some (.stringIter s (pos + (Utf8.decode s pos).2)) ∧
      (∀ j, j ≠ k → wi.heap[j]? = w.heap[j]?) ∧ wi.heap.size = w.heap.size ∧ Below k w wi :=
  ⟨_, fun ty => Lib.run_next_any_at w k s pos ty hit hp, Lib.iterAt_heap w k s pos _ hit, fun j hj => Lib.iterAt_other w k j s _ hj, Lib.iterAt_size w k s _, Lib.below_iterAt (Below.refl k w) (Nat.le_refl _) s _⟩
theorem own_same {w w1 : World} {base : Nat} {e : TypeId} {size : Nat} {v : Value} {n : Nat} {xs : List Value} (h : w.ownsRow base e size v n xs) (hb : ∀ j, base ≤ j → w1.heap[j]? = w.heap[j]?) : w1.ownsRow base e size v n xs := by
  obtain ⟨h1, h2⟩ := h
  refine ⟨h1, ?_⟩
  rcases h2 with h2 | ⟨g, cap, cur, hv, hg, hh, r⟩
  · exact .inl h2
  · exact .inr ⟨g, cap, cur, hv, hg, (hb g hg).trans hh, r⟩

set_option maxRecDepth 100000 in
set_option maxHeartbeats 4000000 in
theorem each_bad (s : ByteArray) (hs : s.size ≤ 1000000) (w : World) :
    Calls Try.prog 60 #[.string s, .func (Fn.func 62) #[] #[]] w fun e w' => e = .returned (.int .i64 (badU s)) ∧ Below w.heap.size w w' := by
  have he := encode_wrong
  go_enter Try.func60, Try.ntmps60
  go_wp2
  go_loopw [4] (fun v wr => ∃ (pos b : Nat) (l : List Nat), v = .int .i64 0 ∧ wr.heap[w.heap.size]? = some (.stringIter s pos) ∧ s.size ≤ pos + b ∧ l.length + b ≤ s.size ∧ Hid (l ++ (runU s b pos).1 = charsU s ∧ (runU s b pos).2 = badU s) ∧ w.heap.size + 1 ≤ wr.heap.size ∧ Below w.heap.size w wr) (fun _ wr => s.size - wr.iterPos w.heap.size)
  case atStart => exact ⟨0, s.size, [], rfl, World.iter_heap _ _ _, by omega, by simp, ⟨rfl, rfl⟩, by simp [World.iter], (Below.refl _ _).alloc (Nat.le_refl _) _⟩
  case round =>
    obtain ⟨pos, b, l, rfl, hit, hb, hlb, HR, hsz, hbel⟩ := hrel
    by_cases hp : pos < s.size
    · obtain ⟨b, rfl⟩ : ∃ m, b = m + 1 := ⟨b - 1, by omega⟩
      have hw := width_pos s pos hp
      obtain ⟨wi, hnx, hit2, hoth, hsz2, hbi⟩ := next_named hit hp
      have Hit2 := Lib.hid hit2
      have Hm := Lib.hid (iterPos_of hit)
      have hbel2 : Below w.heap.size w wi := hbel.trans (hbi)
      have hsz3 : w.heap.size + 1 ≤ wi.heap.size := by omega
      clear hit hit2 hoth hbi hbel hsz
      by_cases hc : (Utf8.decode s pos).1 = 65533
      · have hnx2 : ∀ ty, (Instr.next (.pointer (some ⟨w.heap.size, 0, none⟩)) true ty).run Try.prog wr = .ok (.tuple #[.bool true, .int .i64 pos, .int .i32 65533]) wi := fun ty => by rw [hnx ty, hc]; rfl
        clear hnx
        by_cases h3 : s.size - pos < 3
        · have hr := runU_stop s b pos hp (stop_short hc h3)
          have Hbad : Hid (pos = badU s) := by have := HR.out.2; rw [hr] at this; exact this
          have Hl : Hid (l = charsU s) := by have := HR.out.1; rw [hr, List.append_nil] at this; exact this
          clear hr HR
          clear hc
          go_wp2
          go_ret
          exact ⟨by rw [← Hbad.out]; rfl, hbel2⟩
        · have hcut := cut3 s pos (by omega)
          cases heq : ((s.extract pos (pos + 3)).toList == [239, 191, 189]) with
          | false =>
            have hr := runU_stop s b pos hp (stop_other hc heq)
            have Hbad : Hid (pos = badU s) := by have := HR.out.2; rw [hr] at this; exact this
            have Hl : Hid (l = charsU s) := by have := HR.out.1; rw [hr, List.append_nil] at this; exact this
            clear hr HR
            clear hc
            go_wp2
            go_ret
            exact ⟨by rw [← Hbad.out]; rfl, hbel2⟩
          | true =>
            have hr := runU_go s b pos hp (go_wrong h3 heq)
            have HR2 : Hid ((l ++ [65533]) ++ (runU s b (pos + (Utf8.decode s pos).2)).1 = charsU s ∧ (runU s b (pos + (Utf8.decode s pos).2)).2 = badU s) := by have h := HR.out; rw [hr] at h; exact Lib.hid (by simpa [hc] using h)
            clear hr HR
            clear hc
            go_wp2_with (go_at_call 62; (with_reducible refine (nop_any _ _).mono ?_); rintro e w2 ⟨rfl, rfl⟩)
            go_roundw
            case rel => exact ⟨pos + (Utf8.decode s pos).2, b, l ++ [65533], rfl, Hit2.out, by omega, by simp; omega, HR2, hsz3, hbel2⟩
            case measure => rw [iterPos_of Hit2.out, Hm.out]; omega
      · have hr := runU_go s b pos hp (go_other hc)
        have HR2 : Hid ((l ++ [(Utf8.decode s pos).1]) ++ (runU s b (pos + (Utf8.decode s pos).2)).1 = charsU s ∧ (runU s b (pos + (Utf8.decode s pos).2)).2 = badU s) := by have h := HR.out; rw [hr] at h; exact Lib.hid (by simpa using h)
        clear hr HR
        have hle := decode_le s pos
        have hcI : (((Utf8.decode s pos).1 : Int) == 65533) = false := by simp; omega
        clear hc
        go_wp2_with (go_at_call 62; (with_reducible refine (nop_any _ _).mono ?_); rintro e w2 ⟨rfl, rfl⟩)
        go_roundw
        case rel => exact ⟨pos + (Utf8.decode s pos).2, b, l ++ [(Utf8.decode s pos).1], rfl, Hit2.out, by omega, by simp; omega, HR2, hsz3, hbel2⟩
        case measure => rw [iterPos_of Hit2.out, Hm.out]; omega
    · have hr := runU_end s b pos hp
      have Hbad : Hid (s.size = badU s) := by have := HR.out.2; rw [hr] at this; exact this
      have Hl : Hid (l = charsU s) := by have := HR.out.1; rw [hr, List.append_nil] at this; exact this
      clear hr HR
      have hnx : ∀ ty, (Instr.next (.pointer (some ⟨w.heap.size, 0, none⟩)) true ty).run Try.prog wr = _ := fun ty => Lib.run_next_end_at wr w.heap.size s pos ty hit hp
      go_wp2
      go_ret
      exact ⟨by rw [← Hbad.out]; rfl, hbel⟩

set_option maxRecDepth 100000 in
set_option maxHeartbeats 4000000 in
theorem each_count (s : ByteArray) (hs : s.size ≤ 1000000) (w : World) (B : Nat) (hB0 : w.heap[B]? = some (.cells #[.int .i64 0] 3 (0, 0))) :
    Calls Try.prog 60 #[.string s, .func (Fn.func 63) #[] #[.pointer (some ⟨B, 0, none⟩)]] w fun e w' => e = .returned (.int .i64 (badU s)) ∧ w'.heap[B]? = some (.cells #[.int .i64 (charsU s).length] 3 (0, 0)) ∧ Below B w w' := by
  have he := encode_wrong
  have hBl := block_lt hB0
  have HB0 := Lib.hid hB0
  clear hB0
  go_enter Try.func60, Try.ntmps60
  go_wp2
  go_loopw [4] (fun v wr => ∃ (pos b : Nat) (l : List Nat), v = .int .i64 0 ∧ wr.heap[w.heap.size]? = some (.stringIter s pos) ∧ s.size ≤ pos + b ∧ l.length + b ≤ s.size ∧ Hid (l ++ (runU s b pos).1 = charsU s ∧ (runU s b pos).2 = badU s) ∧ w.heap.size + 1 ≤ wr.heap.size ∧ wr.heap[B]? = some (.cells #[.int .i64 l.length] 3 (0, 0)) ∧ Below B w wr) (fun _ wr => s.size - wr.iterPos w.heap.size)
  case atStart => exact ⟨0, s.size, [], rfl, World.iter_heap _ _ _, by omega, by simp, ⟨rfl, rfl⟩, by simp [World.iter], (Below.heap_alloc w _ B hBl).trans HB0.out, (Below.refl B w).alloc (Nat.le_of_lt hBl) _⟩
  case round =>
    obtain ⟨pos, b, l, rfl, hit, hb, hlb, HR, hsz, hJ, hbel⟩ := hrel
    by_cases hp : pos < s.size
    · obtain ⟨b, rfl⟩ : ∃ m, b = m + 1 := ⟨b - 1, by omega⟩
      have hw := width_pos s pos hp
      obtain ⟨wi, hnx, hit2, hoth, hsz2, hbi⟩ := next_named hit hp
      have Hit2 := Lib.hid hit2
      have Hm := Lib.hid (iterPos_of hit)
      have hbel2 : Below B w wi := hbel.trans (hbi.mono (Nat.le_of_lt hBl))
      have hJ2 := (hoth B (by omega)).trans hJ
      have HJ2 := Lib.hid hJ2
      have hsz3 : w.heap.size + 1 ≤ wi.heap.size := by omega
      clear hit hit2 hoth hbi hbel hsz hJ hJ2
      by_cases hc : (Utf8.decode s pos).1 = 65533
      · have hnx2 : ∀ ty, (Instr.next (.pointer (some ⟨w.heap.size, 0, none⟩)) true ty).run Try.prog wr = .ok (.tuple #[.bool true, .int .i64 pos, .int .i32 65533]) wi := fun ty => by rw [hnx ty, hc]; rfl
        clear hnx
        by_cases h3 : s.size - pos < 3
        · have hr := runU_stop s b pos hp (stop_short hc h3)
          have Hbad : Hid (pos = badU s) := by have := HR.out.2; rw [hr] at this; exact this
          have Hl : Hid (l = charsU s) := by have := HR.out.1; rw [hr, List.append_nil] at this; exact this
          clear hr HR
          clear hc
          go_wp2
          go_ret
          exact ⟨by rw [← Hbad.out]; rfl, by rw [← Hl.out]; exact HJ2.out, hbel2⟩
        · have hcut := cut3 s pos (by omega)
          cases heq : ((s.extract pos (pos + 3)).toList == [239, 191, 189]) with
          | false =>
            have hr := runU_stop s b pos hp (stop_other hc heq)
            have Hbad : Hid (pos = badU s) := by have := HR.out.2; rw [hr] at this; exact this
            have Hl : Hid (l = charsU s) := by have := HR.out.1; rw [hr, List.append_nil] at this; exact this
            clear hr HR
            clear hc
            go_wp2
            go_ret
            exact ⟨by rw [← Hbad.out]; rfl, by rw [← Hl.out]; exact HJ2.out, hbel2⟩
          | true =>
            have hr := runU_go s b pos hp (go_wrong h3 heq)
            have HR2 : Hid ((l ++ [65533]) ++ (runU s b (pos + (Utf8.decode s pos).2)).1 = charsU s ∧ (runU s b (pos + (Utf8.decode s pos).2)).2 = badU s) := by have h := HR.out; rw [hr] at h; exact Lib.hid (by simpa [hc] using h)
            clear hr HR
            clear hc
            go_wp2_with (go_at_call 63; (with_reducible refine (count1_any _ l.length B (by omega) _ HJ2.out).mono ?_); rintro e w2 ⟨rfl, hJ3, hbel3, hab⟩)
            have HJ3 := Lib.hid hJ3
            have Hit3 := Lib.hid ((hab _ hBl).trans Hit2.out)
            clear hJ3 hab
            go_roundw
            case rel => exact ⟨pos + (Utf8.decode s pos).2, b, l ++ [65533], rfl, Hit3.out, by omega, by simp; omega, HR2, Nat.le_trans hsz3 hbel3.size, by rw [List.length_append]; exact HJ3.out, hbel2.trans hbel3⟩
            case measure => rw [iterPos_of Hit3.out, Hm.out]; omega
      · have hr := runU_go s b pos hp (go_other hc)
        have HR2 : Hid ((l ++ [(Utf8.decode s pos).1]) ++ (runU s b (pos + (Utf8.decode s pos).2)).1 = charsU s ∧ (runU s b (pos + (Utf8.decode s pos).2)).2 = badU s) := by have h := HR.out; rw [hr] at h; exact Lib.hid (by simpa using h)
        clear hr HR
        have hle := decode_le s pos
        have hcI : (((Utf8.decode s pos).1 : Int) == 65533) = false := by simp; omega
        clear hc
        go_wp2_with (go_at_call 63; (with_reducible refine (count1_any _ l.length B (by omega) _ HJ2.out).mono ?_); rintro e w2 ⟨rfl, hJ3, hbel3, hab⟩)
        have HJ3 := Lib.hid hJ3
        have Hit3 := Lib.hid ((hab _ hBl).trans Hit2.out)
        clear hJ3 hab
        go_roundw
        case rel => exact ⟨pos + (Utf8.decode s pos).2, b, l ++ [(Utf8.decode s pos).1], rfl, Hit3.out, by omega, by simp; omega, HR2, Nat.le_trans hsz3 hbel3.size, by rw [List.length_append]; exact HJ3.out, hbel2.trans hbel3⟩
        case measure => rw [iterPos_of Hit3.out, Hm.out]; omega
    · have hr := runU_end s b pos hp
      have Hbad : Hid (s.size = badU s) := by have := HR.out.2; rw [hr] at this; exact this
      have Hl : Hid (l = charsU s) := by have := HR.out.1; rw [hr, List.append_nil] at this; exact this
      clear hr HR
      have hnx : ∀ ty, (Instr.next (.pointer (some ⟨w.heap.size, 0, none⟩)) true ty).run Try.prog wr = _ := fun ty => Lib.run_next_end_at wr w.heap.size s pos ty hit hp
      go_wp2
      go_ret
      exact ⟨by rw [← Hbad.out]; rfl, by rw [← Hl.out]; exact hJ, hbel⟩

set_option maxRecDepth 100000 in
set_option maxHeartbeats 4000000 in
theorem each_chars (s : ByteArray) (hs : s.size ≤ 1000000) (w : World) (B : Nat) (hB0 : w.heap[B]? = some (.cells #[.slice none 0 0] 22 (0, 0))) :
    Calls Try.prog 60 #[.string s, .func (Fn.func 61) #[] #[.pointer (some ⟨B, 0, none⟩)]] w fun e w' => e = .returned (.int .i64 (badU s)) ∧ (∃ u, w'.heap[B]? = some (.cells #[u] 22 (0, 0)) ∧ w'.ownsRow (w.heap.size + 1) 3 1 u (charsU s).length ((charsU s).map intV)) ∧ Below B w w' := by
  have he := encode_wrong
  have hBl := block_lt hB0
  have HB0 := Lib.hid hB0
  clear hB0
  go_enter Try.func60, Try.ntmps60
  go_wp2
  go_loopw [4] (fun v wr => ∃ (pos b : Nat) (l : List Nat), v = .int .i64 0 ∧ wr.heap[w.heap.size]? = some (.stringIter s pos) ∧ s.size ≤ pos + b ∧ l.length + b ≤ s.size ∧ Hid (l ++ (runU s b pos).1 = charsU s ∧ (runU s b pos).2 = badU s) ∧ w.heap.size + 1 ≤ wr.heap.size ∧ (∃ u, wr.heap[B]? = some (.cells #[u] 22 (0, 0)) ∧ wr.ownsRow (w.heap.size + 1) 3 1 u l.length (l.map intV)) ∧ Below B w wr) (fun _ wr => s.size - wr.iterPos w.heap.size)
  case atStart => exact ⟨0, s.size, [], rfl, World.iter_heap _ _ _, by omega, by simp, ⟨rfl, rfl⟩, by simp [World.iter], ⟨_, (Below.heap_alloc w _ B hBl).trans HB0.out, World.ownsRow_nil _ _ _ _⟩, (Below.refl B w).alloc (Nat.le_of_lt hBl) _⟩
  case round =>
    obtain ⟨pos, b, l, rfl, hit, hb, hlb, HR, hsz, ⟨u, hJ, hown⟩, hbel⟩ := hrel
    by_cases hp : pos < s.size
    · obtain ⟨b, rfl⟩ : ∃ m, b = m + 1 := ⟨b - 1, by omega⟩
      have hw := width_pos s pos hp
      obtain ⟨wi, hnx, hit2, hoth, hsz2, hbi⟩ := next_named hit hp
      have Hit2 := Lib.hid hit2
      have Hm := Lib.hid (iterPos_of hit)
      have hbel2 : Below B w wi := hbel.trans (hbi.mono (Nat.le_of_lt hBl))
      have hJ2 := (hoth B (by omega)).trans hJ
      have hown2 := own_same hown fun j hj => hoth j (by omega)
      have HJ2 := Lib.hid hJ2
      have hsz3 : w.heap.size + 1 ≤ wi.heap.size := by omega
      clear hit hit2 hoth hbi hbel hsz hJ hJ2 hown
      by_cases hc : (Utf8.decode s pos).1 = 65533
      · have hnx2 : ∀ ty, (Instr.next (.pointer (some ⟨w.heap.size, 0, none⟩)) true ty).run Try.prog wr = .ok (.tuple #[.bool true, .int .i64 pos, .int .i32 65533]) wi := fun ty => by rw [hnx ty, hc]; rfl
        clear hnx
        by_cases h3 : s.size - pos < 3
        · have hr := runU_stop s b pos hp (stop_short hc h3)
          have Hbad : Hid (pos = badU s) := by have := HR.out.2; rw [hr] at this; exact this
          have Hl : Hid (l = charsU s) := by have := HR.out.1; rw [hr, List.append_nil] at this; exact this
          clear hr HR
          clear hc
          go_wp2
          go_ret
          exact ⟨by rw [← Hbad.out]; rfl, ⟨u, HJ2.out, by rw [← Hl.out]; exact hown2⟩, hbel2⟩
        · have hcut := cut3 s pos (by omega)
          cases heq : ((s.extract pos (pos + 3)).toList == [239, 191, 189]) with
          | false =>
            have hr := runU_stop s b pos hp (stop_other hc heq)
            have Hbad : Hid (pos = badU s) := by have := HR.out.2; rw [hr] at this; exact this
            have Hl : Hid (l = charsU s) := by have := HR.out.1; rw [hr, List.append_nil] at this; exact this
            clear hr HR
            clear hc
            go_wp2
            go_ret
            exact ⟨by rw [← Hbad.out]; rfl, ⟨u, HJ2.out, by rw [← Hl.out]; exact hown2⟩, hbel2⟩
          | true =>
            have hr := runU_go s b pos hp (go_wrong h3 heq)
            have HR2 : Hid ((l ++ [65533]) ++ (runU s b (pos + (Utf8.decode s pos).2)).1 = charsU s ∧ (runU s b (pos + (Utf8.decode s pos).2)).2 = badU s) := by have h := HR.out; rw [hr] at h; exact Lib.hid (by simpa [hc] using h)
            clear hr HR
            clear hc
            go_wp2_with (go_at_call 61; (with_reducible refine (chars1_any 65533 65533 rfl u l B (w.heap.size + 1) (by omega) _ HJ2.out hown2 (by omega) hsz3).mono ?_); rintro e w2 ⟨rfl, ⟨u2, hJ3, hown3⟩, hbel3, hsz4, hab⟩)
            have HJ3 := Lib.hid hJ3
            have Hit3 := Lib.hid ((hab w.heap.size (by omega) (by omega)).trans Hit2.out)
            clear hJ3 hab
            go_roundw
            case rel => exact ⟨pos + (Utf8.decode s pos).2, b, l ++ [65533], rfl, Hit3.out, by omega, by simp; omega, HR2, Nat.le_trans hsz3 hbel3.size, ⟨u2, HJ3.out, hown3⟩, hbel2.trans hbel3⟩
            case measure => rw [iterPos_of Hit3.out, Hm.out]; omega
      · have hr := runU_go s b pos hp (go_other hc)
        have HR2 : Hid ((l ++ [(Utf8.decode s pos).1]) ++ (runU s b (pos + (Utf8.decode s pos).2)).1 = charsU s ∧ (runU s b (pos + (Utf8.decode s pos).2)).2 = badU s) := by have h := HR.out; rw [hr] at h; exact Lib.hid (by simpa using h)
        clear hr HR
        have hle := decode_le s pos
        have hcI : (((Utf8.decode s pos).1 : Int) == 65533) = false := by simp; omega
        clear hc
        go_wp2_with (go_at_call 61; (with_reducible refine (chars1_any _ _ rfl u l B (w.heap.size + 1) (by omega) _ HJ2.out hown2 (by omega) hsz3).mono ?_); rintro e w2 ⟨rfl, ⟨u2, hJ3, hown3⟩, hbel3, hsz4, hab⟩)
        have HJ3 := Lib.hid hJ3
        have Hit3 := Lib.hid ((hab w.heap.size (by omega) (by omega)).trans Hit2.out)
        clear hJ3 hab
        go_roundw
        case rel => exact ⟨pos + (Utf8.decode s pos).2, b, l ++ [(Utf8.decode s pos).1], rfl, Hit3.out, by omega, by simp; omega, HR2, Nat.le_trans hsz3 hbel3.size, ⟨u2, HJ3.out, hown3⟩, hbel2.trans hbel3⟩
        case measure => rw [iterPos_of Hit3.out, Hm.out]; omega
    · have hr := runU_end s b pos hp
      have Hbad : Hid (s.size = badU s) := by have := HR.out.2; rw [hr] at this; exact this
      have Hl : Hid (l = charsU s) := by have := HR.out.1; rw [hr, List.append_nil] at this; exact this
      clear hr HR
      have hnx : ∀ ty, (Instr.next (.pointer (some ⟨w.heap.size, 0, none⟩)) true ty).run Try.prog wr = _ := fun ty => Lib.run_next_end_at wr w.heap.size s pos ty hit hp
      go_wp2
      go_ret
      exact ⟨by rw [← Hbad.out]; rfl, ⟨u, hJ, by rw [← Hl.out]; exact hown⟩, hbel⟩

end Go.Proofs.Ytjjmfmlgemdjkaa
