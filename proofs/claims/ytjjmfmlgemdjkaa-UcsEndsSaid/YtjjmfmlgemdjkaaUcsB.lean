/- The contract of ucs.meets. -/
import Derived.Test.YtjjmfmlgemdjkaaUcsA
namespace Go.Proofs.Ytjjmfmlgemdjkaa
open Go.RowKit

def meetU (lo hi : Int) (k : Nat) : Bool := decide (lo ≤ ((highU k : Nat) : Int)) && decide (((lowU k : Nat) : Int) ≤ hi)
def meetsU (lo hi : Int) : Bool := (List.range 19).any (meetU lo hi)
theorem index_span : ∀ (k : Nat), k < 19 → ∀ w : World, (Instr.index 83 (.agg spansV) (.int .i64 k)).run Try.prog w = .ok (.agg #[.int .i64 (lowU k : Nat), .int .i64 (highU k : Nat)]) w
  | 0, _, _ => by kernel_rfl
  | 1, _, _ => by kernel_rfl
  | 2, _, _ => by kernel_rfl
  | 3, _, _ => by kernel_rfl
  | 4, _, _ => by kernel_rfl
  | 5, _, _ => by kernel_rfl
  | 6, _, _ => by kernel_rfl
  | 7, _, _ => by kernel_rfl
  | 8, _, _ => by kernel_rfl
  | 9, _, _ => by kernel_rfl
  | 10, _, _ => by kernel_rfl
  | 11, _, _ => by kernel_rfl
  | 12, _, _ => by kernel_rfl
  | 13, _, _ => by kernel_rfl
  | 14, _, _ => by kernel_rfl
  | 15, _, _ => by kernel_rfl
  | 16, _, _ => by kernel_rfl
  | 17, _, _ => by kernel_rfl
  | 18, _, _ => by kernel_rfl
  | n + 19, h, _ => by omega
theorem meets_yes {lo hi : Int} {k : Nat} (hk : k < 19) (h1 : lo ≤ ((highU k : Nat) : Int)) (h2 : ((lowU k : Nat) : Int) ≤ hi) : meetsU lo hi = true := by
  unfold meetsU
  rw [List.any_eq_true]
  exact ⟨k, List.mem_range.2 hk, by unfold meetU; simp [h1, h2]⟩
theorem meets_next {lo hi : Int} {k : Nat} (h : (List.range k).any (meetU lo hi) = false) (hm : meetU lo hi k = false) : (List.range (k + 1)).any (meetU lo hi) = false := by
  rw [List.range_succ, List.any_append, h]
  simp [hm]

set_option maxRecDepth 100000 in
set_option maxHeartbeats 4000000 in
theorem meets_any (lo hi : Int) (w : World) : Calls Try.prog 65 #[.int .i64 lo, .int .i64 hi] w fun e w' => e = .returned (.bool (meetsU lo hi)) ∧ Below w.heap.size w w' := by
  have hS := spans_any
  go_enter Try.func65, Try.ntmps65
  go_wp2_with (go_at_call 79; (with_reducible refine (hS _).mono ?_); rintro e w1 ⟨rfl, hb1⟩)
  clear hS
  go_loopw [8] (fun i wr => ∃ k : Nat, k ≤ 19 ∧ i = .int .i64 k ∧ Hid ((List.range k).any (meetU lo hi) = false) ∧ Below w.heap.size w wr) (fun i _ => 19 - (intOf i).toNat)
  case atStart => exact ⟨0, by omega, rfl, Lib.hid rfl, hb1⟩
  case round =>
    obtain ⟨k, hk, rfl, HN, hbel⟩ := hrel
    clear hb1
    by_cases hlt : k < 19
    · have hix := index_span k hlt
      have Hy := Lib.hid (meets_yes (lo := lo) (hi := hi) hlt)
      have Hn := Lib.hid (fun hm => meets_next (lo := lo) (hi := hi) HN.out (k := k) hm)
      have Hm : Hid (meetU lo hi k = (decide (lo ≤ ((highU k : Nat) : Int)) && decide (((lowU k : Nat) : Int) ≤ hi))) := Lib.hid rfl
      generalize highU k = b at hix Hy Hm
      generalize lowU k = a at hix Hy Hm
      have hltI : ((k : Int) < 19) := by omega
      by_cases h1 : lo ≤ (b : Int)
      · by_cases h2 : (a : Int) ≤ hi
        · have Hv := Lib.hid (Hy.out h1 h2)
          clear Hy Hn Hm HN
          go_wp2
          go_ret
          exact ⟨by rw [Hv.out]; rfl, hbel.alloc hbel.size _⟩
        · have Hk := Lib.hid (Hn.out (by rw [Hm.out]; simp [h1]; omega))
          clear Hy Hn Hm HN
          go_wp2
          go_roundw
          case rel => exact ⟨k + 1, by omega, by go_num, Hk, hbel.alloc hbel.size _⟩
          case measure => simp [intOf]; omega
      · have Hk := Lib.hid (Hn.out (by rw [Hm.out]; simp [h1]))
        clear Hy Hn Hm HN
        go_wp2
        go_roundw
        case rel => exact ⟨k + 1, by omega, by go_num, Hk, hbel.alloc hbel.size _⟩
        case measure => simp [intOf]; omega
    · obtain rfl : k = 19 := by omega
      have Hv : Hid (meetsU lo hi = false) := HN
      clear HN
      go_wp2
      go_ret
      exact ⟨by rw [Hv.out]; rfl, hbel⟩
end Go.Proofs.Ytjjmfmlgemdjkaa
