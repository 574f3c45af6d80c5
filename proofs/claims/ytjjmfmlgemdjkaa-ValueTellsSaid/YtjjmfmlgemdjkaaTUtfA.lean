/- The contracts of utf.each, with each of the three closures. -/
import Derived.Test.YtjjmfmlgemdjkaaTUtfB
namespace Go.Proofs.Ytjjmfmlgemdjkaa
open Go.RowKit

theorem cut3 (s : ByteArray) (p : Nat) (h : p + 3 ≤ s.size) (w : World) :
    (Instr.slice 9 (.string s) (some (.int .i64 p)) (some (.int .i64 ((p : Int) + 3))) none).run Try.prog w = .ok (.string (s.extract p (p + 3))) w := by
  have h1 := run_slice_string (P := Try.prog) w 9 s .i64 .i64 p ((p : Int) + 3) Try.underlying9 (by omega) (by omega) (by omega)
  rw [h1]
  have e1 : ((p : Int)).toNat = p := by omega
  have e2 : ((p : Int) + 3).toNat = p + 3 := by omega
  rw [e1, e2]

/-- What the test of a round says, as the walk asks it. -/
theorem stop_short {s : ByteArray} {p : Nat} (hc : (Utf8.decode s p).1 = 65533) (h : s.size - p < 3) : stopB s p = true := by unfold stopB; simp [hc, h]
theorem stop_other {s : ByteArray} {p : Nat} (hc : (Utf8.decode s p).1 = 65533) (h : ((s.extract p (p + 3)).toList == [239, 191, 189]) = false) : stopB s p = true := by unfold stopB; simp [hc, h]
theorem go_wrong {s : ByteArray} {p : Nat} (h3 : ¬ s.size - p < 3) (h : ((s.extract p (p + 3)).toList == [239, 191, 189]) = true) : stopB s p = false := by unfold stopB; simp [h3, h]
theorem go_other {s : ByteArray} {p : Nat} (hc : ¬ (Utf8.decode s p).1 = 65533) : stopB s p = false := by unfold stopB; simp [hc]

/-- One step of a range over s: the world behind it, under a name. -/
theorem next_named {w : World} {k : Nat} {s : ByteArray} {pos : Nat} (hit : w.heap[k]? = some (.stringIter s pos)) (hp : pos < s.size) :
    ∃ wi, (∀ ty, (Instr.next (.pointer (some ⟨k, 0, none⟩)) true ty).run Try.prog w = .ok (.tuple #[.bool true, .int .i64 pos, .int .i32 (Utf8.decode s pos).1]) wi) ∧ wi.heap[k]? = some (.stringIter s (pos + (Utf8.decode s pos).2)) ∧
      (∀ j, j ≠ k → wi.heap[j]? = w.heap[j]?) ∧ wi.heap.size = w.heap.size ∧ Below k w wi :=
  ⟨_, fun ty => Lib.run_next_any_at w k s pos ty hit hp, Lib.iterAt_heap w k s pos _ hit, fun j hj => Lib.iterAt_other w k j s _ hj, Lib.iterAt_size w k s _, Lib.below_iterAt (Below.refl k w) (Nat.le_refl _) s _⟩
set_option maxRecDepth 100000 in
set_option maxHeartbeats 4000000 in
theorem each_bad (s : ByteArray) (hs : s.size ≤ 1000000) (w : World) :
    Calls Try.prog 60 #[.string s, .func (Fn.func 62) #[] #[]] w fun e w' => e = .returned (.int .i64 (badU s)) ∧ Below w.heap.size w w' := by
  have he := encode_wrong
  go_enter Try.func60, Try.ntmps60
  go_wp2
  go_loopw [4] (fun v wr => ∃ (pos b : Nat) (l : List Nat), v = .int .i64 0 ∧ wr.heap[w.heap.size]? = some (.stringIter s pos) ∧ s.size ≤ pos + b ∧ l.length + b ≤ s.size ∧ Hid (l ++ (runU s b pos).1 = charsU s ∧ (runU s b pos).2 = badU s) ∧ w.heap.size + 1 ≤ wr.heap.size ∧ Below w.heap.size w wr) (fun _ wr => s.size - wr.iterPos w.heap.size)
  case atStart => exact ⟨0, s.size, [], rfl, World.iter_heap _ _ _, by omega, by simp, ⟨rfl, rfl⟩, by simp [World.iter], (Below.refl _ _).alloc (Nat.le_refl _) _⟩
  case round =>
    obtain ⟨pos, b, l, rfl, hit, hb, hlb, HR, hsz, hbel⟩ := hrel
    by_cases hp : pos < s.size
    · obtain ⟨b, rfl⟩ : ∃ m, b = m + 1 := ⟨b - 1, by omega⟩
      have hw := width_pos s pos hp
      obtain ⟨wi, hnx, hit2, hoth, hsz2, hbi⟩ := next_named hit hp
      have Hit2 := Lib.hid hit2
      have Hm := Lib.hid (iterPos_of hit)
      have hbel2 : Below w.heap.size w wi := hbel.trans (hbi)
      have hsz3 : w.heap.size + 1 ≤ wi.heap.size := by omega
      clear hit hit2 hoth hbi hbel hsz
      by_cases hc : (Utf8.decode s pos).1 = 65533
      · have hnx2 : ∀ ty, (Instr.next (.pointer (some ⟨w.heap.size, 0, none⟩)) true ty).run Try.prog wr = .ok (.tuple #[.bool true, .int .i64 pos, .int .i32 65533]) wi := fun ty => by rw [hnx ty, hc]; rfl
        clear hnx
        by_cases h3 : s.size - pos < 3
        · have hr := runU_stop s b pos hp (stop_short hc h3)
          have Hbad : Hid (pos = badU s) := by have := HR.out.2; rw [hr] at this; exact this
          have Hl : Hid (l = charsU s) := by have := HR.out.1; rw [hr, List.append_nil] at this; exact this
          clear hr HR
          clear hc
          go_wp2
          go_ret
          exact ⟨by rw [← Hbad.out]; rfl, hbel2⟩
        · have hcut := cut3 s pos (by omega)
          cases heq : ((s.extract pos (pos + 3)).toList == [239, 191, 189]) with
          | false =>
            have hr := runU_stop s b pos hp (stop_other hc heq)
            have Hbad : Hid (pos = badU s) := by have := HR.out.2; rw [hr] at this; exact this
            have Hl : Hid (l = charsU s) := by have := HR.out.1; rw [hr, List.append_nil] at this; exact this
            clear hr HR
            clear hc
            go_wp2
            go_ret
            exact ⟨by rw [← Hbad.out]; rfl, hbel2⟩
          | true =>
            have hr := runU_go s b pos hp (go_wrong h3 heq)
            have HR2 : Hid ((l ++ [65533]) ++ (runU s b (pos + (Utf8.decode s pos).2)).1 = charsU s ∧ (runU s b (pos + (Utf8.decode s pos).2)).2 = badU s) := by have h := HR.out; rw [hr] at h; exact Lib.hid (by simpa [hc] using h)
            clear hr HR
            clear hc
            go_wp2_with (go_at_call 62; (with_reducible refine (nop_any _ _).mono ?_); rintro e w2 ⟨rfl, rfl⟩)
            go_roundw
            case rel => exact ⟨pos + (Utf8.decode s pos).2, b, l ++ [65533], rfl, Hit2.out, by omega, by simp; omega, HR2, hsz3, hbel2⟩
            case measure => rw [iterPos_of Hit2.out, Hm.out]; omega
      · have hr := runU_go s b pos hp (go_other hc)
        have HR2 : Hid ((l ++ [(Utf8.decode s pos).1]) ++ (runU s b (pos + (Utf8.decode s pos).2)).1 = charsU s ∧ (runU s b (pos + (Utf8.decode s pos).2)).2 = badU s) := by have h := HR.out; rw [hr] at h; exact Lib.hid (by simpa using h)
        clear hr HR
        have hle := decode_le s pos
        have hcI : (((Utf8.decode s pos).1 : Int) == 65533) = false := by simp; omega
        clear hc
        go_wp2_with (go_at_call 62; (with_reducible refine (nop_any _ _).mono ?_); rintro e w2 ⟨rfl, rfl⟩)
        go_roundw
        case rel => exact ⟨pos + (Utf8.decode s pos).2, b, l ++ [(Utf8.decode s pos).1], rfl, Hit2.out, by omega, by simp; omega, HR2, hsz3, hbel2⟩
        case measure => rw [iterPos_of Hit2.out, Hm.out]; omega
    · have hr := runU_end s b pos hp
      have Hbad : Hid (s.size = badU s) := by have := HR.out.2; rw [hr] at this; exact this
      have Hl : Hid (l = charsU s) := by have := HR.out.1; rw [hr, List.append_nil] at this; exact this
      clear hr HR
      have hnx : ∀ ty, (Instr.next (.pointer (some ⟨w.heap.size, 0, none⟩)) true ty).run Try.prog wr = _ := fun ty => Lib.run_next_end_at wr w.heap.size s pos ty hit hp
      go_wp2
      go_ret
      exact ⟨by rw [← Hbad.out]; rfl, hbel⟩

end Go.Proofs.Ytjjmfmlgemdjkaa

