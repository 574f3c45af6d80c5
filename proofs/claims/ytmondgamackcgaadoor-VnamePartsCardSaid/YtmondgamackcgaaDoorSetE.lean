/- The contract of chars.Set.Len; sets compared. -/
import Derived.Test.YtmondgamackcgaaDoorSetD
namespace Go.Proofs.YtmondgamackcgaaDoor
open Go.RowKit

theorem eqWords (a b c d a' b' c' d' : Int) (w : World) : (Op.equalIn 10000 38 (.agg #[.int .u64 a, .int .u64 b, .int .u64 c, .int .u64 d]) (.agg #[.int .u64 a', .int .u64 b', .int .u64 c', .int .u64 d'])).run Tryd.prog w = .ok (a == a' && (b == b' && (c == c' && d == d'))) w := by
  have u3 := Tryd.underlying36
  have a3 := Tryd.isAgg36
  have z3 := Tryd.sizeOf36
  rw [show (10000 : Nat) = 9999 + 1 from rfl, Op.equalIn]
  simp only [Sem.run_bind, run_underlying Tryd.underlying38, Result.andThen_ok]
  simp only [Std.Legacy.Range.forIn_eq_forIn_range', Std.Legacy.Range.size, Nat.sub_zero, Nat.add_sub_cancel, Nat.div_one, List.range'_succ, List.range'_zero, List.forIn_cons, List.forIn_nil]
  go_simp
  by_cases h1 : a = a' <;> by_cases h2 : b = b' <;> by_cases h3 : c = c' <;> by_cases h4 : d = d' <;> simp [h1, h2, h3, h4]

/-- Are two sets the same, word by word? -/
def sameW (f g : Nat → Bool) : Bool := ((wd f 0 : Nat) : Int) == (wd g 0 : Nat) && (((wd f 1 : Nat) : Int) == (wd g 1 : Nat) && (((wd f 2 : Nat) : Int) == (wd g 2 : Nat) && ((wd f 3 : Nat) : Int) == (wd g 3 : Nat)))
theorem sameW_self (f : Nat → Bool) : sameW f f = true := by unfold sameW; simp
theorem sameW_iff (f g : Nat → Bool) : sameW f g = true ↔ ∀ n, n < 256 → f n = g n := by
  unfold sameW
  simp only [Bool.and_eq_true, beq_iff_eq, Int.natCast_inj]
  constructor
  · rintro ⟨h0, h1, h2, h3⟩ n hn
    have hk : n / 64 = 0 ∨ n / 64 = 1 ∨ n / 64 = 2 ∨ n / 64 = 3 := by omega
    have e : 64 * (n / 64) + n % 64 = n := by omega
    have hm : n % 64 < 64 := by omega
    rcases hk with h | h | h | h <;> rw [h] at e
    · rw [← e]; exact wd_inj h0 _ hm
    · rw [← e]; exact wd_inj h1 _ hm
    · rw [← e]; exact wd_inj h2 _ hm
    · rw [← e]; exact wd_inj h3 _ hm
  · intro h
    exact ⟨wd_congr fun i hi => h _ (by omega), wd_congr fun i hi => h _ (by omega), wd_congr fun i hi => h _ (by omega), wd_congr fun i hi => h _ (by omega)⟩
theorem listTo_none (f : Nat → Bool) (k : Nat) (h : ∀ n, n < k → f n = false) : listTo f k = [] := by
  unfold listTo
  rw [List.map_eq_nil_iff, List.filter_eq_nil_iff]
  intro n hn
  rw [h n (List.mem_range.1 hn)]
  simp

end Go.Proofs.YtmondgamackcgaaDoor
