/- The contracts of ucs: spans, meets. -/
import Derived.Test.YtjjmfmlgemdjkaaUtfC
import Derived.Test.YtjjmfmlgemdjkaaWWords
namespace Go.Proofs.Ytjjmfmlgemdjkaa
open Go.RowKit

def lowU (k : Nat) : Nat := if k = 0 then 160 else if k = 1 then 57344 else if k = 2 then 65008 else if k = 16 then 921600 else (k - 2) * 65536
def highU (k : Nat) : Nat := if k = 0 then 55295 else if k = 1 then 64975 else if k = 2 then 65519 else (k - 2) * 65536 + 65533
def spanL : Nat → List Value
  | 0 => []
  | k + 1 => spanL k ++ [.int .i64 (lowU k : Nat), .int .i64 (highU k : Nat)]
def spansV : Array Value := (spanL 19).toArray
/-- The cells ahead of round p. -/
def span0 (k : Nat) : Value × Value := (.int .i64 ((if k = 0 then 160 else if k = 1 then 57344 else if k = 2 then 65008 else (k - 2) * 65536 : Nat)), .int .i64 (highU k : Nat))
def spanC (p : Nat) : Nat → List Value
  | 0 => []
  | k + 1 => spanC p k ++ (if k < p + 2 then [(span0 k).1, (span0 k).2] else [.int .i64 0, .int .i64 0])
def cellsC (p : Nat) : Array Value := (spanC p 19).toArray
def zerosC : Array Value := (List.replicate 38 (.int .i64 0)).toArray

theorem alloc_spans (w : World) : (Instr.alloc 83 true (.tuple #[])).run Try.prog w = .ok (.pointer (some ⟨w.heap.size, 0, none⟩)) (w.alloc (.cells zerosC 83)) := by kernel_rfl
theorem build_spans (w : World) : (Instr.build 83 #[(0, .agg #[.int .i64 160, .int .i64 55295]), (1, .agg #[.int .i64 57344, .int .i64 64975]), (2, .agg #[.int .i64 65008, .int .i64 65519])]).run Try.prog w = .ok (.agg (cellsC 1)) w := by kernel_rfl

theorem spanC_one (p : Nat) : ∀ k, ∀ q ∈ spanC p k, q.oneCell' = true
  | 0, _, h => by simp [spanC] at h
  | k + 1, q, h => by
    rw [spanC] at h
    rcases List.mem_append.1 h with h | h
    · exact spanC_one p k q h
    · split at h <;> (simp [span0] at h; rcases h with rfl | rfl <;> rfl)
theorem cells_one (p : Nat) : ∀ q ∈ (cellsC p).toList, q.oneCell' = true := fun q h => spanC_one p 19 q (by simpa [cellsC] using h)

theorem load_event {P : Program} {a : Act} {W : World} {o : Oper} {t : TypeId} {p : Tmp} {g : Nat} {v : Value} (ho : o.op = .load t (.tmp p)) (hp : a.tmps.getD p undef = .pointer (some ⟨g, 0, none⟩)) (hl : (loadVar t ⟨g, 0, none⟩).run P W = .ok v W) : (execOp a.eval o).run P W = .ok (.value v) W := by
  have he : a.eval (.tmp p) = .pointer (some ⟨g, 0, none⟩) := hp
  simp only [execOp, ho, he, Instr.loadAt, Instr.sureAddr, Sem.run_bind, Sem.run_pure, Result.andThen_ok, hl]
theorem below_cells {n : Nat} {w W : World} (hb : Below n w W) {g : Nat} (hg : n ≤ g) : ∀ (vs : List Value) (o : Nat), Below n w (W.setCells g o vs)
  | vs, o => by
    induction vs generalizing o W with
    | nil => exact hb
    | cons v r ih =>
      rw [World.setCells]
      exact ih (hb.setCell (p := ⟨g, o, none⟩) hg v) (o + 1)
theorem spanC_len (p : Nat) : ∀ k, (spanC p k).length = 2 * k
  | 0 => rfl
  | k + 1 => by
    rw [spanC, List.length_append, spanC_len p k]
    split <;> simp <;> omega
theorem cells_size (p : Nat) : (cellsC p).size = 38 := by
  unfold cellsC
  rw [List.size_toArray, spanC_len]
theorem cells_step : ∀ (p : Nat) (h1 : 1 ≤ p) (h2 : p ≤ 16), ((cellsC p).setIfInBounds ((2 + p) * 2) (.int .i64 ((p : Int) * 65536))).setIfInBounds ((2 + p) * 2 + 1) (.int .i64 ((p : Int) * 65536 + 65533)) = cellsC (p + 1)
  | 1, _, _ => by kernel_rfl
  | 2, _, _ => by kernel_rfl
  | 3, _, _ => by kernel_rfl
  | 4, _, _ => by kernel_rfl
  | 5, _, _ => by kernel_rfl
  | 6, _, _ => by kernel_rfl
  | 7, _, _ => by kernel_rfl
  | 8, _, _ => by kernel_rfl
  | 9, _, _ => by kernel_rfl
  | 10, _, _ => by kernel_rfl
  | 11, _, _ => by kernel_rfl
  | 12, _, _ => by kernel_rfl
  | 13, _, _ => by kernel_rfl
  | 14, _, _ => by kernel_rfl
  | 15, _, _ => by kernel_rfl
  | 16, _, _ => by kernel_rfl
  | 0, h, _ => by omega
  | n + 17, _, h => by omega
theorem cells_last : (cellsC 17).setIfInBounds 32 (.int .i64 921600) = spansV := by kernel_rfl

set_option maxRecDepth 100000 in
set_option maxHeartbeats 4000000 in
theorem spans_any (w : World) : Calls Try.prog 79 #[] w fun e w' => e = .returned (.agg spansV) ∧ Below w.heap.size w w' := by
  have hB1 : ((w.alloc (.cells zerosC 83)).alloc (.cells zerosC 83)).heap[w.heap.size + 1]? = some (.cells zerosC 83 (0, 0)) := by
    have := heap_alloc_new (w.alloc (.cells zerosC 83)) (.cells zerosC 83)
    rw [World.size_alloc] at this
    exact this
  have hsz : (cellsC 1).size = 38 := by decide +kernel
  have hst := run_storeCells_cells (P := Try.prog) (w.heap.size + 1) 0 (cellsC 1).toList 0 ((w.alloc (.cells zerosC 83)).alloc (.cells zerosC 83)) (fun j hj => by rw [cell_of_row _ _ _ zerosC 83 (0, 0) hB1]; simp; rw [Array.length_toList, hsz] at hj; rw [show zerosC.size = 38 from rfl]; exact hj) (fun j _ => Go.Proofs.YtjjmfmlgemdjkaaW.PrintWords.blk_frozen hB1 _) (cells_one 1)
  simp only [Nat.add_zero] at hst
  go_enter Try.func79, Try.ntmps79
  go_wp2_with (first
    | (with_reducible refine Go.Proofs.YtjjmfmlgemdjkaaW.PrintWords.gate_dst (N := 0) rfl ?_; refine Go.Proofs.YtjjmfmlgemdjkaaW.PrintWords.Kd.event_run rfl (v := .pointer (some ⟨w.heap.size, 0, none⟩)) (w1 := w.alloc (.cells zerosC 83)) ?hr ?_; (case hr => kernel_rfl))
    | (with_reducible refine Go.Proofs.YtjjmfmlgemdjkaaW.PrintWords.gate_dst (N := 6) rfl ?_; refine Go.Proofs.YtjjmfmlgemdjkaaW.PrintWords.Kd.event_run rfl (v := .agg (cellsC 1)) (w1 := w.alloc (.cells zerosC 83)) ?hr ?_; (case hr => kernel_rfl))
    | (with_reducible refine Go.Proofs.YtjjmfmlgemdjkaaW.PrintWords.gate_dst (N := 1) rfl ?_; refine Go.Proofs.YtjjmfmlgemdjkaaW.PrintWords.Kd.event_run rfl (v := .pointer (some ⟨(w.alloc (.cells zerosC 83)).heap.size, 0, none⟩)) (w1 := (w.alloc (.cells zerosC 83)).alloc (.cells zerosC 83)) ?hr ?_; (case hr => kernel_rfl); rw [World.size_alloc]))
  have hR := Go.Proofs.YtjjmfmlgemdjkaaW.PrintWords.setCells_row (cellsC 1).toList 0 _ _ hB1 (by rw [Array.length_toList, hsz]; exact Nat.le_refl _)
  obtain ⟨cur, hc1, hc2, hc3⟩ := hR
  obtain rfl : cur = cellsC 1 := by
    apply Array.toList_inj.1
    rw [hc3, List.take_zero, List.nil_append, Array.length_toList, hsz, List.drop_eq_nil_of_le (by decide +kernel), List.append_nil]
  have hZ : (((w.alloc (.cells zerosC 83)).alloc (.cells zerosC 83)).setCells (w.heap.size + 1) 0 (cellsC 1).toList).heap[w.heap.size]? = some (.cells zerosC 83 (0, 0)) := by
    rw [Go.Proofs.YtjjmfmlgemdjkaaW.PrintWords.setCells_far _ _ _ (by omega), Below.heap_alloc _ _ _ (by simp)]
    exact heap_alloc_new _ _
  have hb0 : Below w.heap.size w (((w.alloc (.cells zerosC 83)).alloc (.cells zerosC 83)).setCells (w.heap.size + 1) 0 (cellsC 1).toList) := by
    exact below_cells (((Below.refl _ _).alloc (Nat.le_refl _) _).alloc (by simp) _) (by omega) _ _
  generalize ((w.alloc (.cells zerosC 83)).alloc (.cells zerosC 83)).setCells (w.heap.size + 1) 0 (cellsC 1).toList = w3 at hc1 hZ hb0 ⊢
  clear hst hB1 hc2 hc3
  go_loopw [2] (fun i wr => ∃ p : Nat, 1 ≤ p ∧ p ≤ 17 ∧ i = .int .i64 p ∧ wr.heap[w.heap.size + 1]? = some (.cells (cellsC p) 83 (0, 0)) ∧ wr.heap[w.heap.size]? = some (.cells zerosC 83 (0, 0)) ∧ Below w.heap.size w wr) (fun i _ => 17 - (intOf i).toNat)
  case atStart => exact ⟨1, by omega, by omega, rfl, hc1, hZ, hb0⟩
  case round =>
    obtain ⟨p, h1, h17, rfl, hC, hz, hbel⟩ := hrel
    clear hsz hc1 hZ hb0
    by_cases hp : p ≤ 16
    · have hp2 : (p : Int) ≤ 16 := by omega
      have hsz := cells_size p
      have c0 := cell_of hC ((2 + p) * 2)
      have c1 := cell_of hC ((2 + p) * 2 + 1)
      obtain ⟨v0, hv0⟩ : ∃ v, (cellsC p)[(2 + p) * 2]? = some v := ⟨_, Array.getElem?_eq_getElem (by omega)⟩
      obtain ⟨v1, hv1⟩ : ∃ v, (cellsC p)[(2 + p) * 2 + 1]? = some v := ⟨_, Array.getElem?_eq_getElem (by omega)⟩
      rw [hv0] at c0
      rw [hv1] at c1
      have f0 := free_of hC ((2 + p) * 2)
      have f1 := free_of hC ((2 + p) * 2 + 1)
      have HC := Lib.hid hC
      have HZ := Lib.hid hz
      clear hC hv0 hv1 hz hsz
      go_wp2
      go_roundw
      case rel =>
        refine ⟨p + 1, by omega, by omega, by go_num, ?_, ?_, ?_⟩
        · rw [block_setCell (block_setCell HC.out _ _) _ _, cells_step p h1 hp]
        · rw [Below.heap_setCell _ _ _ _ (by simp), Below.heap_setCell _ _ _ _ (by simp)]
          exact HZ.out
        · exact (hbel.setCell (p := ⟨w.heap.size + 1, _, none⟩) (by simp) _).setCell (p := ⟨w.heap.size + 1, _, none⟩) (by simp) _
      case measure => simp [intOf]; omega
    · obtain rfl : p = 17 := by omega
      have c0 := cell_of hC 32
      have hv0 : (cellsC 17)[32]? = some (.int .i64 917504) := by kernel_rfl
      rw [hv0] at c0
      have f0 := free_of hC 32
      obtain ⟨W, hW⟩ : ∃ W, W = wr.setCell ⟨w.heap.size + 1, 32, none⟩ (.int .i64 921600) := ⟨_, rfl⟩
      have hW1 : W.heap[w.heap.size + 1]? = some (.cells spansV 83 (0, 0)) := by rw [hW, block_setCell hC _ _, cells_last]
      have hW0 : W.heap[w.heap.size]? = some (.cells zerosC 83 (0, 0)) := by rw [hW, Below.heap_setCell _ _ _ _ (by simp)]; exact hz
      have hWb : Below w.heap.size w W := by rw [hW]; exact hbel.setCell (p := ⟨w.heap.size + 1, _, none⟩) (by simp) _
      have HC := Lib.hid hC
      have HZ := Lib.hid hz
      clear hC hv0 hz
      have hsz : spansV.size = 38 := by decide +kernel
      have hone : ∀ q ∈ spansV.toList, q.oneCell' = true := by decide +kernel
      have hst := run_storeCells_cells (P := Try.prog) w.heap.size 0 spansV.toList 0 W (fun j hj => by rw [cell_of_row _ _ _ zerosC 83 (0, 0) hW0]; simp; rw [Array.length_toList, hsz] at hj; rw [show zerosC.size = 38 from rfl]; exact hj) (fun j _ => Go.Proofs.YtjjmfmlgemdjkaaW.PrintWords.blk_frozen hW0 _) hone
      simp only [Nat.add_zero] at hst
      have hld := run_loadVar_row (P := Try.prog) W (w.heap.size + 1) 83 83 spansV (0, 0) _ hW1 Try.underlying83 rfl (by kernel_rfl)
      have hR := Go.Proofs.YtjjmfmlgemdjkaaW.PrintWords.setCells_row spansV.toList 0 _ _ hW0 (by rw [Array.length_toList, hsz]; exact Nat.le_refl _)
      obtain ⟨cur, hc1, hc2, hc3⟩ := hR
      obtain rfl : cur = spansV := by
        apply Array.toList_inj.1
        rw [hc3, List.take_zero, List.nil_append, Array.length_toList, hsz, List.drop_eq_nil_of_le (by decide +kernel), List.append_nil]
      have Hc1 := Lib.hid hc1
      clear hc1 hc2 hc3 hone
      go_wp2_with (with_reducible refine Go.Proofs.YtjjmfmlgemdjkaaW.PrintWords.gate_dst (N := 22) rfl ?_; rw [← hW]; clear hW HC HZ c0 f0 hbel; refine Go.Proofs.YtjjmfmlgemdjkaaW.PrintWords.Kd.event_run rfl (v := .agg spansV) (w1 := W) ?hr ?_; (case hr => exact load_event rfl rfl hld))
      exact bodyPost_ret (results_c rfl _ _ _ _ _ _ _ rfl Hc1.out Try.underlying83 rfl (by kernel_rfl)) rfl ⟨rfl, below_cells hWb (Nat.le_refl _) _ _⟩
end Go.Proofs.Ytjjmfmlgemdjkaa
