/- The contract of chars.Union: of sets that lie side by side in one block. -/
import Derived.Test.YtmondgamackcgaaDoorSetE
namespace Go.Proofs.YtmondgamackcgaaDoor
open Go.RowKit

/-- The words of sets, side by side. -/
def rowOf (fs : List (Nat → Bool)) : List Value := fs.flatMap fun f => (wordsA f).toList
theorem rowOf_at : ∀ (fs : List (Nat → Bool)) (j i : Nat) (hj : j < fs.length) (_ : i < 4), (rowOf fs)[j * 4 + i]? = some (.int .u64 (wd fs[j] i : Nat))
  | [], j, i, hj, _ => by simp at hj
  | f :: fs, 0, i, _, hi => by
    have h := wordsA_at f i hi
    simp only [rowOf, List.flatMap_cons, Nat.zero_mul, Nat.zero_add]
    rw [List.getElem?_append_left (by show i < 4; exact hi)]
    simpa using h
  | f :: fs, j + 1, i, hj, hi => by
    have ih := rowOf_at fs j i (by simpa using hj) hi
    simp only [rowOf, List.flatMap_cons] at ih ⊢
    rw [List.getElem?_append_right (by show 4 ≤ _; omega)]
    rw [show (j + 1) * 4 + i - (wordsA f).toList.length = j * 4 + i by show (j + 1) * 4 + i - 4 = _; omega]
    simpa using ih

/-- All that some set has. -/
def anyOf (fs : List (Nat → Bool)) (n : Nat) : Bool := fs.any fun f => f n
theorem anyOf_succ (fs : List (Nat → Bool)) (k : Nat) (h : k < fs.length) : anyOf (fs.take (k + 1)) = fun n => anyOf (fs.take k) n || fs[k] n := by
  funext n
  unfold anyOf
  rw [List.take_succ_eq_append_getElem h, List.any_append]
  simp

set_option maxRecDepth 100000 in
set_option maxHeartbeats 2000000 in
theorem union_any (fs : List (Nat → Bool)) (b cap : Nat) (w : World) (hl : fs.length ≤ 1000) (hb : b < w.heap.size) (hcell : ∀ j i, (h : j < fs.length) → i < 4 → w.cell? ⟨b, j * 4 + i, none⟩ = some (.int .u64 (wd fs[j] i : Nat))) :
    Calls Tryd.prog 31 #[.slice (some ⟨b, 0, none⟩) fs.length cap] w fun e w' => e = .returned (setV (anyOf fs)) ∧ Below w.heap.size w w' := by
  go_enter Tryd.func31, Tryd.ntmps31
  go_wp2
  go_loopw [10] (fun i wr => ∃ k : Nat, k ≤ fs.length ∧ i = .int .i64 k ∧ wr.heap[w.heap.size + 1]? = some (.cells (wordsA (anyOf (fs.take k))) 38 (0, 0)) ∧ wr.heap[w.heap.size]? = some (.cells (wordsA fun _ => false) 38 (0, 0)) ∧ w.heap.size + 2 ≤ wr.heap.size ∧ Below w.heap.size w wr) (fun i _ => fs.length - (intOf i).toNat)
  case atStart =>
    refine ⟨0, Nat.zero_le _, rfl, ?_, ?_, ?_, ?_⟩
    · rw [List.take_zero, show anyOf [] = (fun _ => false) from rfl, wordsA_none]; exact heap_alloc_last _ _ _ (by simp)
    · rw [wordsA_none, Below.heap_alloc _ _ _ (by simp)]; exact heap_alloc_new _ _
    · simp
    · exact ((Below.refl _ _).alloc (Nat.le_refl _) _).alloc (by simp) _
  case round =>
    obtain ⟨k, hk, rfl, hB, hR, hz, hbel⟩ := hrel
    by_cases hlt : k < fs.length
    · have s0 : wr.cell? ⟨b, k * 4, none⟩ = some (.int .u64 (wd fs[k] 0 : Nat)) := (hbel.cell (p := ⟨b, k * 4, none⟩) hb).trans (hcell k 0 hlt (by omega))
      have s1 : wr.cell? ⟨b, k * 4 + 1, none⟩ = some (.int .u64 (wd fs[k] 1 : Nat)) := (hbel.cell (p := ⟨b, k * 4 + 1, none⟩) hb).trans (hcell k 1 hlt (by omega))
      have s2 : wr.cell? ⟨b, k * 4 + 2, none⟩ = some (.int .u64 (wd fs[k] 2 : Nat)) := (hbel.cell (p := ⟨b, k * 4 + 2, none⟩) hb).trans (hcell k 2 hlt (by omega))
      have s3 : wr.cell? ⟨b, k * 4 + 3, none⟩ = some (.int .u64 (wd fs[k] 3 : Nat)) := (hbel.cell (p := ⟨b, k * 4 + 3, none⟩) hb).trans (hcell k 3 hlt (by omega))
      have hA : Below wr.heap.size wr (wr.alloc (.cells #[.int .u64 (wd fs[k] 0 : Nat), .int .u64 (wd fs[k] 1 : Nat), .int .u64 (wd fs[k] 2 : Nat), .int .u64 (wd fs[k] 3 : Nat)] 38)) := (Below.refl _ _).alloc (Nat.le_refl _) _
      obtain ⟨c0, c1, c2, c3⟩ := cells4_below hB hA
      obtain ⟨g0, g1, g2, g3⟩ := free4_below hB hA
      have HA := Lib.hid hA
      clear hA
      have e0 := wd_or (anyOf (fs.take k)) fs[k] 0
      have e1 := wd_or (anyOf (fs.take k)) fs[k] 1
      have e2 := wd_or (anyOf (fs.take k)) fs[k] 2
      have e3 := wd_or (anyOf (fs.take k)) fs[k] 3
      have Hsucc := Lib.hid (anyOf_succ fs k hlt)
      have HR := Lib.hid hR
      have HB := Lib.hid hB
      clear hR hB hcell
      generalize fs[k] = g at s0 s1 s2 s3 c0 c1 c2 c3 g0 g1 g2 g3 e0 e1 e2 e3 Hsucc HA
      generalize anyOf (fs.take k) = f at c0 c1 c2 c3 e0 e1 e2 e3 Hsucc HB
      have i0 : ∀ w, (Instr.index 38 (.agg #[.int .u64 (wd g 0 : Nat), .int .u64 (wd g 1 : Nat), .int .u64 (wd g 2 : Nat), .int .u64 (wd g 3 : Nat)]) (.int .i64 0)).run Tryd.prog w = .ok (.int .u64 (wd g 0 : Nat)) w := fun _ => by kernel_rfl
      have i1 : ∀ w, (Instr.index 38 (.agg #[.int .u64 (wd g 0 : Nat), .int .u64 (wd g 1 : Nat), .int .u64 (wd g 2 : Nat), .int .u64 (wd g 3 : Nat)]) (.int .i64 1)).run Tryd.prog w = .ok (.int .u64 (wd g 1 : Nat)) w := fun _ => by kernel_rfl
      have i2 : ∀ w, (Instr.index 38 (.agg #[.int .u64 (wd g 0 : Nat), .int .u64 (wd g 1 : Nat), .int .u64 (wd g 2 : Nat), .int .u64 (wd g 3 : Nat)]) (.int .i64 2)).run Tryd.prog w = .ok (.int .u64 (wd g 2 : Nat)) w := fun _ => by kernel_rfl
      have i3 : ∀ w, (Instr.index 38 (.agg #[.int .u64 (wd g 0 : Nat), .int .u64 (wd g 1 : Nat), .int .u64 (wd g 2 : Nat), .int .u64 (wd g 3 : Nat)]) (.int .i64 3)).run Tryd.prog w = .ok (.int .u64 (wd g 3 : Nat)) w := fun _ => by kernel_rfl
      go_wp2
      refine wp_loop_rounds 5 ?_
      rw [rounds_succ]
      go_wp2
      rw [rounds_succ]
      go_wp2
      rw [rounds_succ]
      go_wp2
      rw [rounds_succ]
      go_wp2
      rw [rounds_succ]
      go_wp2
      go_roundw
      case rel =>
        have hB1 := block_below HB.out HA.out
        have hR1 := block_below HR.out HA.out
        have hset := setCells4 hB1 (fun n => f n || g n)
        have hbs := below4 (Below.refl (w.heap.size + 1) (wr.alloc (.cells #[.int .u64 (wd g 0 : Nat), .int .u64 (wd g 1 : Nat), .int .u64 (wd g 2 : Nat), .int .u64 (wd g 3 : Nat)] 38))) (Nat.le_refl _) (.int .u64 (wd (fun n => f n || g n) 0 : Nat)) (.int .u64 (wd (fun n => f n || g n) 1 : Nat)) (.int .u64 (wd (fun n => f n || g n) 2 : Nat)) (.int .u64 (wd (fun n => f n || g n) 3 : Nat))
        refine ⟨k + 1, by omega, by go_num, ?_, ?_, ?_, ?_⟩
        · rw [Hsucc.out]; exact hset
        · exact (hbs.block _ (Nat.lt_succ_self _)).trans hR1
        · exact Nat.le_trans (Nat.le_trans hz HA.out.size) hbs.size
        · exact (below_after hbel HA.out).trans (hbs.mono (Nat.le_succ _))
      case measure => simp [intOf]; omega
    · obtain rfl : k = fs.length := by omega
      rw [List.take_length] at hB
      have c0 := cells4 hB 0 (by omega)
      have c1 := cells4 hB 1 (by omega)
      have c2 := cells4 hB 2 (by omega)
      have c3 := cells4 hB 3 (by omega)
      have r0 := cells4 hR 0 (by omega)
      have r1 := cells4 hR 1 (by omega)
      have r2 := cells4 hR 2 (by omega)
      have r3 := cells4 hR 3 (by omega)
      have g0 := free4 hR 0
      have g1 := free4 hR 1
      have g2 := free4 hR 2
      have g3 := free4 hR 3
      have HR := Lib.hid hR
      clear hR hB hcell
      go_wp2
      exact bodyPost_ret (results_c rfl _ _ _ _ _ _ _ rfl (setCells4 HR.out _) Tryd.underlying38 rfl (info25 _)) rfl ⟨rfl, below4 hbel (Nat.le_refl _) _ _ _ _⟩

set_option maxRecDepth 100000 in
set_option maxHeartbeats 2000000 in
theorem union_none (w : World) :
    Calls Tryd.prog 31 #[.slice none 0 0] w fun e w' => e = .returned (setV fun _ => false) ∧ Below w.heap.size w w' := by
  unfold setV
  go_enter Tryd.func31, Tryd.ntmps31
  go_wp2
  refine wp_loop_rounds 1 ?_
  rw [rounds_succ]
  go_wp2
  exact bodyPost_ret (results_c rfl _ _ _ _ (wordsA fun _ => false) _ _ rfl (by rw [wordsA_none, Below.heap_alloc _ _ _ (by simp)]; exact heap_alloc_new _ _) Tryd.underlying38 rfl (info25 _)) rfl ⟨rfl, ((Below.refl _ _).alloc (Nat.le_refl _) _).alloc (by simp) _⟩

/-- Sets that have just been laid side by side, in a new block. -/
theorem rowOf_new (w : World) (fs : List (Nat → Bool)) (j i : Nat) (hj : j < fs.length) (hi : i < 4) : (w.alloc (.cells (rowOf fs).toArray 38)).cell? ⟨w.heap.size, j * 4 + i, none⟩ = some (.int .u64 (wd fs[j] i : Nat)) := by
  rw [cell_alloc, List.getElem?_toArray]
  exact rowOf_at fs j i hj hi
end Go.Proofs.YtmondgamackcgaaDoor
