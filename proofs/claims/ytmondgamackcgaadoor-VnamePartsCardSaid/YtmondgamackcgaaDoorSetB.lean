/- The contracts of chars.Of and chars.Range. -/
import Derived.Test.YtmondgamackcgaaDoorSetA
namespace Go.Proofs.YtmondgamackcgaaDoor
open Go.RowKit

/-- The set of the bytes of a text. -/
def bytesIn (l : List UInt8) (n : Nat) : Bool := l.any fun b => b.toNat == n
theorem bytesIn_snoc (l : List UInt8) (c : UInt8) : bytesIn (l ++ [c]) = fun n => bytesIn l n || n == c.toNat := by
  funext n
  simp only [bytesIn, List.any_append, List.any_cons, List.any_nil, Bool.or_false]
  cases l.any (fun b => b.toNat == n) <;> simp [BEq.comm]
theorem take_snoc (s : ByteArray) (k : Nat) (h : k < s.size) : s.data.toList.take (k + 1) = s.data.toList.take k ++ [s[k]] := by
  rw [List.take_succ_eq_append_getElem (by simpa using h)]; rfl
theorem take_all (s : ByteArray) : s.data.toList.take s.size = s.data.toList := List.take_of_length_le (Nat.le_refl _)

theorem cells4 {w : World} {B : Nat} {t : TypeId} {f : Nat → Bool} (h : w.heap[B]? = some (.cells (wordsA f) t (0, 0))) (k : Nat) (hk : k < 4) : w.cell? ⟨B, k, none⟩ = some (.int .u64 (wd f k : Nat)) :=
  (cell_of_row w B k _ _ _ h).trans (wordsA_at f k hk)
theorem free4 {w : World} {B : Nat} {t : TypeId} {cs : Array Value} (h : w.heap[B]? = some (.cells cs t (0, 0))) (k : Nat) : w.frozen? ⟨B, k, none⟩ = false := by simp [World.frozen?, h]

theorem wordsA_empty : wordsA (bytesIn []) = wordsA fun _ => false := rfl
theorem wordsA_none : wordsA (fun _ => false) = #[.int .u64 0, .int .u64 0, .int .u64 0, .int .u64 0] := by
  unfold wordsA; simp only [wd_none]; rfl

/-- The set that lies in block B behind the store of all its four words. -/
theorem setCells4 {w : World} {B : Nat} {t : TypeId} {g : Nat → Bool} (h : w.heap[B]? = some (.cells (wordsA g) t (0, 0))) (f : Nat → Bool) :
    ((((w.setCell ⟨B, 0, none⟩ (.int .u64 (wd f 0 : Nat))).setCell ⟨B, 1, none⟩ (.int .u64 (wd f 1 : Nat))).setCell ⟨B, 2, none⟩ (.int .u64 (wd f 2 : Nat))).setCell ⟨B, 3, none⟩ (.int .u64 (wd f 3 : Nat))).heap[B]? = some (.cells (wordsA f) t (0, 0)) := by
  rw [block_setCell (block_setCell (block_setCell (block_setCell h 0 _) 1 _) 2 _) 3 _]
  rfl
theorem below4 {w w1 : World} {B C : Nat} (h : Below C w w1) (hc : C ≤ B) (v0 v1 v2 v3 : Value) : Below C w ((((w1.setCell ⟨B, 0, none⟩ v0).setCell ⟨B, 1, none⟩ v1).setCell ⟨B, 2, none⟩ v2).setCell ⟨B, 3, none⟩ v3) :=
  (((h.setCell hc _).setCell hc _).setCell hc _).setCell hc _
theorem info25 (f : Nat → Bool) : (Tryd.prog.info? 38).map (·.size) = some (wordsA f).size := by kernel_rfl

set_option maxHeartbeats 1000000 in
theorem of_any (s : ByteArray) (hs : s.size ≤ 9223372036854775807) (w : World) :
    Calls Tryd.prog 34 #[.string s] w fun e w' => e = .returned (setV (bytesIn s.data.toList)) ∧ Below w.heap.size w w' := by
  go_enter Tryd.func34, Tryd.ntmps34
  go_wp2
  go_loopw [7] (fun i wr => ∃ k : Nat, k ≤ s.size ∧ i = .int .i64 k ∧ wr.heap[w.heap.size + 1]? = some (.cells (wordsA (bytesIn (s.data.toList.take k))) 38 (0, 0)) ∧ wr.heap[w.heap.size]? = some (.cells (wordsA fun _ => false) 38 (0, 0)) ∧ w.heap.size + 2 ≤ wr.heap.size ∧ Below w.heap.size w wr) (fun i _ => s.size - (intOf i).toNat)
  case atStart =>
    refine ⟨0, Nat.zero_le _, rfl, ?_, ?_, ?_, ?_⟩
    · rw [List.take_zero, wordsA_empty, wordsA_none]; exact heap_alloc_last _ _ _ (by simp)
    · rw [wordsA_none, Below.heap_alloc _ _ _ (by simp)]; exact heap_alloc_new _ _
    · simp
    · exact ((Below.refl _ _).alloc (Nat.le_refl _) _).alloc (by simp) _
  case round =>
    obtain ⟨k, hk, rfl, hB, hR, hz, hbel⟩ := hrel
    by_cases hlt : k < s.size
    · have Hts := Lib.hid (take_snoc s k hlt)
      have HR := Lib.hid hR
      clear hR
      go_wp2_with (go_at_call 43; refine (add_any _ _ (s[k]).toNat_lt _ _ hB).mono ?_; rintro e w1 ⟨rfl, hB1, hbel1⟩)
      have HB1 := Lib.hid hB1
      clear hB1 hB
      go_wp2
      go_roundw
      case rel =>
        refine ⟨k + 1, by omega, by go_num, ?_, ?_, Nat.le_trans hz hbel1.size, hbel.trans (hbel1.mono (Nat.le_succ _))⟩
        · rw [Hts.out, bytesIn_snoc]; exact HB1.out
        · exact (hbel1.block _ (Nat.lt_succ_self _)).trans HR.out
      case measure => simp [intOf]; omega
    · obtain rfl : k = s.size := by omega
      rw [take_all] at hB
      have c0 := cells4 hB 0 (by omega)
      have c1 := cells4 hB 1 (by omega)
      have c2 := cells4 hB 2 (by omega)
      have c3 := cells4 hB 3 (by omega)
      have r0 := cells4 hR 0 (by omega)
      have r1 := cells4 hR 1 (by omega)
      have r2 := cells4 hR 2 (by omega)
      have r3 := cells4 hR 3 (by omega)
      have g0 := free4 hR 0
      have g1 := free4 hR 1
      have g2 := free4 hR 2
      have g3 := free4 hR 3
      have HR := Lib.hid hR
      clear hR hB
      go_wp2
      exact bodyPost_ret (results_c rfl _ _ _ _ _ _ _ rfl (setCells4 HR.out _) Tryd.underlying38 rfl (info25 _)) rfl ⟨rfl, below4 hbel (Nat.le_refl _) _ _ _ _⟩
end Go.Proofs.YtmondgamackcgaaDoor
