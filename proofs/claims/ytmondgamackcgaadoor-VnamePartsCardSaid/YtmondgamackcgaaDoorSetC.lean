/- The contracts of chars.Range, Minus and Not. -/
import Derived.Test.YtmondgamackcgaaDoorSetB
import Derived.Deep.RegionHeld3
namespace Go.Proofs.YtmondgamackcgaaDoor
open Go.RowKit

theorem wordsA_congr {f g : Nat → Bool} (h : ∀ n, n < 256 → f n = g n) : wordsA f = wordsA g := by
  unfold wordsA
  rw [wd_congr (f := f) (g := g) (k := 0) fun i hi => h _ (by omega), wd_congr (f := f) (g := g) (k := 1) fun i hi => h _ (by omega), wd_congr (f := f) (g := g) (k := 2) fun i hi => h _ (by omega), wd_congr (f := f) (g := g) (k := 3) fun i hi => h _ (by omega)]
theorem setV_congr {f g : Nat → Bool} (h : ∀ n, n < 256 → f n = g n) : setV f = setV g := by unfold setV; rw [wordsA_congr h]

/-- The bytes from lo to hi. -/
def span (lo hi n : Nat) : Bool := decide (lo ≤ n) && decide (n ≤ hi)
def upTo (lo k n : Nat) : Bool := decide (lo ≤ n) && decide (n < k)
theorem upTo_start (lo : Nat) : wordsA (upTo lo lo) = wordsA fun _ => false := wordsA_congr fun n _ => by unfold upTo; simp
theorem upTo_succ (lo k : Nat) (h : lo ≤ k) : wordsA (fun n => upTo lo k n || n == k) = wordsA (upTo lo (k + 1)) := wordsA_congr fun n _ => by
  unfold upTo; rw [Bool.eq_iff_iff]; simp; omega
theorem upTo_end (lo hi k : Nat) (h1 : hi < k) (h2 : k ≤ max lo (hi + 1)) : upTo lo k = span lo hi := by
  funext n; unfold upTo span; rw [Bool.eq_iff_iff]; simp; omega

set_option maxHeartbeats 1000000 in
theorem range_any (lo hi : Nat) (hlo : lo < 256) (hhi : hi < 256) (w : World) :
    Calls Tryd.prog 35 #[.int .u8 lo, .int .u8 hi] w fun e w' => e = .returned (setV (span lo hi)) ∧ Below w.heap.size w w' := by
  go_enter Tryd.func35, Tryd.ntmps35
  go_wp2
  go_loopw [6] (fun i wr => ∃ k : Nat, lo ≤ k ∧ k ≤ max lo (hi + 1) ∧ i = .int .i64 k ∧ wr.heap[w.heap.size + 1]? = some (.cells (wordsA (upTo lo k)) 38 (0, 0)) ∧ wr.heap[w.heap.size]? = some (.cells (wordsA fun _ => false) 38 (0, 0)) ∧ w.heap.size + 2 ≤ wr.heap.size ∧ Below w.heap.size w wr) (fun i _ => 300 - (intOf i).toNat)
  case atStart =>
    refine ⟨lo, Nat.le_refl _, by omega, rfl, ?_, ?_, ?_, ?_⟩
    · rw [upTo_start, wordsA_none]; exact heap_alloc_last _ _ _ (by simp)
    · rw [wordsA_none, Below.heap_alloc _ _ _ (by simp)]; exact heap_alloc_new _ _
    · simp
    · exact ((Below.refl _ _).alloc (Nat.le_refl _) _).alloc (by simp) _
  case round =>
    obtain ⟨k, hk, hk2, rfl, hB, hR, hz, hbel⟩ := hrel
    by_cases hlt : k ≤ hi
    · have HR := Lib.hid hR
      have HS := Lib.hid (upTo_succ lo k hk)
      have hk3 : k < 256 := by omega
      clear hR
      go_wp2_with (go_at_call 43; refine (add_any _ _ hk3 _ _ hB).mono ?_; rintro e w1 ⟨rfl, hB1, hbel1⟩)
      have HB1 := Lib.hid hB1
      clear hB1 hB
      go_wp2
      go_roundw
      case rel =>
        refine ⟨k + 1, by omega, by omega, by go_num, ?_, ?_, Nat.le_trans hz hbel1.size, hbel.trans (hbel1.mono (Nat.le_succ _))⟩
        · rw [← HS.out]; exact HB1.out
        · exact (hbel1.block _ (Nat.lt_succ_self _)).trans HR.out
      case measure => simp [intOf]; omega
    · rw [upTo_end lo hi k (by omega) hk2] at hB
      have c0 := cells4 hB 0 (by omega)
      have c1 := cells4 hB 1 (by omega)
      have c2 := cells4 hB 2 (by omega)
      have c3 := cells4 hB 3 (by omega)
      have r0 := cells4 hR 0 (by omega)
      have r1 := cells4 hR 1 (by omega)
      have r2 := cells4 hR 2 (by omega)
      have r3 := cells4 hR 3 (by omega)
      have g0 := free4 hR 0
      have g1 := free4 hR 1
      have g2 := free4 hR 2
      have g3 := free4 hR 3
      have HR := Lib.hid hR
      clear hR hB
      go_wp2
      exact bodyPost_ret (results_c rfl _ _ _ _ _ _ _ rfl (setCells4 HR.out _) Tryd.underlying38 rfl (info25 _)) rfl ⟨rfl, below4 hbel (Nat.le_refl _) _ _ _ _⟩

theorem cells4_below {w w1 : World} {B : Nat} {t : TypeId} {f : Nat → Bool} (h : w.heap[B]? = some (.cells (wordsA f) t (0, 0))) (hb : Below w.heap.size w w1) :
    w1.cell? ⟨B, 0, none⟩ = some (.int .u64 (wd f 0 : Nat)) ∧ w1.cell? ⟨B, 1, none⟩ = some (.int .u64 (wd f 1 : Nat)) ∧ w1.cell? ⟨B, 2, none⟩ = some (.int .u64 (wd f 2 : Nat)) ∧ w1.cell? ⟨B, 3, none⟩ = some (.int .u64 (wd f 3 : Nat)) :=
  have h1 := block_below h hb
  ⟨cells4 h1 0 (by omega), cells4 h1 1 (by omega), cells4 h1 2 (by omega), cells4 h1 3 (by omega)⟩

theorem cells4_set {w w1 : World} {B C : Nat} {t : TypeId} {f : Nat → Bool} (h : w.heap[B]? = some (.cells (wordsA f) t (0, 0))) (hb : Below w.heap.size w w1) (hC : B < C) (v0 v1 v2 v3 : Value) :
    ((((w1.setCell ⟨C, 0, none⟩ v0).setCell ⟨C, 1, none⟩ v1).setCell ⟨C, 2, none⟩ v2).setCell ⟨C, 3, none⟩ v3).cell? ⟨B, 0, none⟩ = some (.int .u64 (wd f 0 : Nat)) ∧ ((((w1.setCell ⟨C, 0, none⟩ v0).setCell ⟨C, 1, none⟩ v1).setCell ⟨C, 2, none⟩ v2).setCell ⟨C, 3, none⟩ v3).cell? ⟨B, 1, none⟩ = some (.int .u64 (wd f 1 : Nat)) ∧ ((((w1.setCell ⟨C, 0, none⟩ v0).setCell ⟨C, 1, none⟩ v1).setCell ⟨C, 2, none⟩ v2).setCell ⟨C, 3, none⟩ v3).cell? ⟨B, 2, none⟩ = some (.int .u64 (wd f 2 : Nat)) ∧ ((((w1.setCell ⟨C, 0, none⟩ v0).setCell ⟨C, 1, none⟩ v1).setCell ⟨C, 2, none⟩ v2).setCell ⟨C, 3, none⟩ v3).cell? ⟨B, 3, none⟩ = some (.int .u64 (wd f 3 : Nat)) := by
  have h1 : ((((w1.setCell ⟨C, 0, none⟩ v0).setCell ⟨C, 1, none⟩ v1).setCell ⟨C, 2, none⟩ v2).setCell ⟨C, 3, none⟩ v3).heap[B]? = some (.cells (wordsA f) t (0, 0)) :=
    ((below4 (Below.refl C w1) (Nat.le_refl _) v0 v1 v2 v3).block B hC).trans (block_below h hb)
  exact ⟨cells4 h1 0 (by omega), cells4 h1 1 (by omega), cells4 h1 2 (by omega), cells4 h1 3 (by omega)⟩
theorem free4_below {w w1 : World} {B : Nat} {t : TypeId} {cs : Array Value} (h : w.heap[B]? = some (.cells cs t (0, 0))) (hb : Below w.heap.size w w1) :
    w1.frozen? ⟨B, 0, none⟩ = false ∧ w1.frozen? ⟨B, 1, none⟩ = false ∧ w1.frozen? ⟨B, 2, none⟩ = false ∧ w1.frozen? ⟨B, 3, none⟩ = false :=
  have h1 := block_below h hb
  ⟨free4 h1 0, free4 h1 1, free4 h1 2, free4 h1 3⟩

end Go.Proofs.YtmondgamackcgaaDoor
