/- The contracts of utf.Bad, Count, Chars and Prefix. -/
import Derived.Test.YtjjmfmlgemdjkaaUtfA
namespace Go.Proofs.Ytjjmfmlgemdjkaa
open Go.RowKit

theorem bad_any (s : ByteArray) (hs : s.size ≤ 1000000) (w : World) :
    Calls Try.prog 28 #[.string s] w fun e w' => e = .returned (.int .i64 (badU s)) ∧ Below w.heap.size w w' := by
  have hE := each_bad s hs
  go_enter Try.func28, Try.ntmps28
  go_wp2_with fail
  refine (hE _).mono ?_
  rintro e w1 ⟨rfl, hb1⟩
  go_wp2
  go_ret
  exact ⟨rfl, hb1⟩

set_option maxHeartbeats 1000000 in
theorem count_any (s : ByteArray) (hs : s.size ≤ 1000000) (w : World) :
    Calls Try.prog 30 #[.string s] w fun e w' => e = .returned (.int .i64 (charsU s).length) ∧ Below w.heap.size w w' := by
  have hmf : ∀ (fn : Fn) (first cap : Array Value) (w : World), (Instr.makeFunc fn first cap).run Try.prog w = .ok (.func fn first cap) w := fun _ _ _ _ => rfl
  go_enter Try.func30, Try.ntmps30
  go_wp2_with fail
  refine (each_count s hs _ w.heap.size (heap_alloc_new _ _)).mono ?_
  rintro e w1 ⟨rfl, hJ, hb1⟩
  have hc := cell_of hJ 0
  go_wp2
  go_ret
  exact ⟨rfl, ((Below.refl _ _).alloc (Nat.le_refl _) _).trans hb1⟩

set_option maxHeartbeats 1000000 in
theorem chars_yes (s : ByteArray) (hs : s.size ≤ 1000000) (hv : badU s = s.size) (w : World) :
    Calls Try.prog 26 #[.string s] w fun e w' => ∃ v : Value, e = .returned (.tuple #[v, .bool true]) ∧ w'.ownsRow w.heap.size 3 1 v (charsU s).length ((charsU s).map intV) ∧ Below w.heap.size w w' := by
  have hmf : ∀ (fn : Fn) (first cap : Array Value) (w : World), (Instr.makeFunc fn first cap).run Try.prog w = .ok (.func fn first cap) w := fun _ _ _ _ => rfl
  go_enter Try.func26, Try.ntmps26
  go_wp2_with fail
  refine (each_chars s hs _ w.heap.size (heap_alloc_new _ _)).mono ?_
  rintro e w1 ⟨rfl, ⟨u, hJ, hown⟩, hb1⟩
  rw [hv]
  have hc : w1.cell? ⟨w.heap.size, 0, none⟩ = some u := cell_of hJ 0
  go_wp2
  go_ret2
  exact ⟨u, rfl, ⟨hown.1, hown.2.imp id fun ⟨g, cap, cur, hv, hg, r⟩ => ⟨g, cap, cur, hv, by simp at hg; omega, r⟩⟩, ((Below.refl _ _).alloc (Nat.le_refl _) _).trans hb1⟩

set_option maxHeartbeats 1000000 in
theorem chars_no (s : ByteArray) (hs : s.size ≤ 1000000) (hv : badU s < s.size) (w : World) :
    Calls Try.prog 26 #[.string s] w fun e w' => e = .returned (.tuple #[.slice none 0 0, .bool false]) ∧ Below w.heap.size w w' := by
  have hmf : ∀ (fn : Fn) (first cap : Array Value) (w : World), (Instr.makeFunc fn first cap).run Try.prog w = .ok (.func fn first cap) w := fun _ _ _ _ => rfl
  go_enter Try.func26, Try.ntmps26
  go_wp2_with fail
  refine (each_chars s hs _ w.heap.size (heap_alloc_new _ _)).mono ?_
  rintro e w1 ⟨rfl, ⟨u, hJ, hown⟩, hb1⟩
  clear hown
  go_wp2
  go_ret2
  exact ⟨rfl, ((Below.refl _ _).alloc (Nat.le_refl _) _).trans hb1⟩

/-- Where the first characters of t end: 'most' at most. -/
def cutU (t : ByteArray) (most : Int) : Nat → Nat → Nat → Nat
  | 0, _, _ => t.size
  | b + 1, p, n => if p < t.size then (if most ≤ n then p else cutU t most b (p + (Utf8.decode t p).2) (n + 1)) else t.size
def prefU (s : ByteArray) (most : Int) : ByteArray := (s.extract 0 (badU s)).extract 0 (cutU (s.extract 0 (badU s)) most (s.extract 0 (badU s)).size 0 0)

theorem cut_to (s : ByteArray) (p : Nat) (h : p ≤ s.size) (w : World) :
    (Instr.slice 9 (.string s) none (some (.int .i64 p)) none).run Try.prog w = .ok (.string (s.extract 0 p)) w := by
  rw [run_slice_string_h (P := Try.prog) w 9 s Try.underlying9 .i64 (p : Int) (by omega) (by omega)]
  simp

set_option maxRecDepth 100000 in
set_option maxHeartbeats 2000000 in
theorem prefix_any (s : ByteArray) (most : Int) (hs : s.size ≤ 1000000) (w : World) :
    Calls Try.prog 33 #[.string s, .int .i64 most] w fun e w' => e = .returned (.string (prefU s most)) ∧ Below w.heap.size w w' := by
  have hB := bad_any s hs
  have hcut := cut_to s (badU s) (badU_le s)
  have hts : (s.extract 0 (badU s)).size ≤ 1000000 := by rw [ByteArray.size_extract]; omega
  obtain ⟨t, ht⟩ : ∃ t, t = s.extract 0 (badU s) := ⟨_, rfl⟩
  have Hp : Hid (prefU s most = t.extract 0 (cutU t most t.size 0 0)) := by rw [ht]; exact Lib.hid rfl
  rw [← ht] at hts
  have hcut2 : ∀ w, (Instr.slice 9 (.string s) none (some (.int .i64 (badU s))) none).run Try.prog w = .ok (.string t) w := fun w => by rw [hcut, ht]
  clear hcut ht
  rw [Hp.out]
  go_enter Try.func33, Try.ntmps33
  go_wp2_with fail
  refine (hB _).mono ?_
  rintro e w1 ⟨rfl, hb1⟩
  go_wp2
  go_loopw [4, 5] (fun v i wr => ∃ pos b n : Nat, v = .string ⟨#[]⟩ ∧ i = .int .i64 n ∧ wr.heap[w1.heap.size]? = some (.stringIter t pos) ∧ t.size ≤ pos + b ∧ n + b ≤ t.size ∧ Hid (cutU t most b pos n = cutU t most t.size 0 0) ∧ Below w1.heap.size w1 wr) (fun _ _ wr => t.size - wr.iterPos w1.heap.size)
  case atStart => exact ⟨0, t.size, 0, rfl, rfl, World.iter_heap _ _ _, by omega, by omega, Lib.hid rfl, (Below.refl _ _).alloc (Nat.le_refl _) _⟩
  case round =>
    obtain ⟨pos, b, n, rfl, rfl, hit, hb, hnb, HR, hbel⟩ := hrel
    by_cases hp : pos < t.size
    · obtain ⟨b, rfl⟩ : ∃ m, b = m + 1 := ⟨b - 1, by omega⟩
      have hw := width_pos t pos hp
      obtain ⟨wi, hnx, hit2, hoth, hsz2, hbi⟩ := next_named hit hp
      have Hit2 := Lib.hid hit2
      have Hm := Lib.hid (iterPos_of hit)
      have hbel2 := hbel.trans hbi
      have hle := decode_le t pos
      clear hit hit2 hoth hbi hbel
      by_cases hm : most ≤ n
      · have hr : cutU t most (b + 1) pos n = pos := by simp [cutU, hp, hm]
        have Hr := Lib.hid (hr.symm.trans HR.out)
        have hc3 := cut_to t pos (Nat.le_of_lt hp)
        clear hr HR
        go_wp2
        go_ret
        exact ⟨by rw [← Hr.out]; rfl, below_after hb1 hbel2⟩
      · have hr : cutU t most (b + 1) pos n = cutU t most b (pos + (Utf8.decode t pos).2) (n + 1) := by simp [cutU, hp, hm]
        have Hr := Lib.hid (hr.symm.trans HR.out)
        clear hr HR
        go_wp2
        go_roundw
        case rel => exact ⟨pos + (Utf8.decode t pos).2, b, n + 1, rfl, by go_num, Hit2.out, by omega, by omega, Hr, hbel2⟩
        case measure => rw [iterPos_of Hit2.out, Hm.out]; omega
    · have hr : cutU t most b pos n = t.size := by cases b <;> simp [cutU, hp]
      have Hr := Lib.hid (hr.symm.trans HR.out)
      clear hr HR
      have hnx : ∀ ty, (Instr.next (.pointer (some ⟨w1.heap.size, 0, none⟩)) true ty).run Try.prog wr = _ := fun ty => Lib.run_next_end_at wr w1.heap.size t pos ty hit hp
      go_wp2
      go_ret
      refine ⟨?_, below_after hb1 hbel⟩
      rw [← Hr.out]
      show Ending.returned (Value.string t) = _
      rw [ByteArray.extract_zero_size]
end Go.Proofs.Ytjjmfmlgemdjkaa
