/- The contract of chars.Set.Len; sets compared. -/
import Derived.Test.YtmondgamackcgaaSetD
namespace Go.Proofs.Ytmondgamackcgaa
open Go.RowKit

theorem eqWords (a b c d a' b' c' d' : Int) (w : World) : (Op.equalIn 10000 25 (.agg #[.int .u64 a, .int .u64 b, .int .u64 c, .int .u64 d]) (.agg #[.int .u64 a', .int .u64 b', .int .u64 c', .int .u64 d'])).run Try.prog w = .ok (a == a' && (b == b' && (c == c' && d == d'))) w := by
  have u3 := Try.underlying22
  have a3 := Try.isAgg22
  have z3 := Try.sizeOf22
  rw [show (10000 : Nat) = 9999 + 1 from rfl, Op.equalIn]
  simp only [Sem.run_bind, run_underlying Try.underlying25, Result.andThen_ok]
  simp only [Std.Legacy.Range.forIn_eq_forIn_range', Std.Legacy.Range.size, Nat.sub_zero, Nat.add_sub_cancel, Nat.div_one, List.range'_succ, List.range'_zero, List.forIn_cons, List.forIn_nil]
  go_simp
  by_cases h1 : a = a' <;> by_cases h2 : b = b' <;> by_cases h3 : c = c' <;> by_cases h4 : d = d' <;> simp [h1, h2, h3, h4]

/-- Are two sets the same, word by word? -/
def sameW (f g : Nat → Bool) : Bool := ((wd f 0 : Nat) : Int) == (wd g 0 : Nat) && (((wd f 1 : Nat) : Int) == (wd g 1 : Nat) && (((wd f 2 : Nat) : Int) == (wd g 2 : Nat) && ((wd f 3 : Nat) : Int) == (wd g 3 : Nat)))
theorem sameW_self (f : Nat → Bool) : sameW f f = true := by unfold sameW; simp
theorem sameW_iff (f g : Nat → Bool) : sameW f g = true ↔ ∀ n, n < 256 → f n = g n := by
  unfold sameW
  simp only [Bool.and_eq_true, beq_iff_eq, Int.natCast_inj]
  constructor
  · rintro ⟨h0, h1, h2, h3⟩ n hn
    have hk : n / 64 = 0 ∨ n / 64 = 1 ∨ n / 64 = 2 ∨ n / 64 = 3 := by omega
    have e : 64 * (n / 64) + n % 64 = n := by omega
    have hm : n % 64 < 64 := by omega
    rcases hk with h | h | h | h <;> rw [h] at e
    · rw [← e]; exact wd_inj h0 _ hm
    · rw [← e]; exact wd_inj h1 _ hm
    · rw [← e]; exact wd_inj h2 _ hm
    · rw [← e]; exact wd_inj h3 _ hm
  · intro h
    exact ⟨wd_congr fun i hi => h _ (by omega), wd_congr fun i hi => h _ (by omega), wd_congr fun i hi => h _ (by omega), wd_congr fun i hi => h _ (by omega)⟩
theorem listTo_none (f : Nat → Bool) (k : Nat) (h : ∀ n, n < k → f n = false) : listTo f k = [] := by
  unfold listTo
  rw [List.map_eq_nil_iff, List.filter_eq_nil_iff]
  intro n hn
  rw [h n (List.mem_range.1 hn)]
  simp

set_option maxRecDepth 100000 in
set_option maxHeartbeats 1000000 in
theorem len_any (f : Nat → Bool) (w : World) :
    Calls Try.prog 20 #[setV f] w fun e w' => e = .returned (.int .i64 (listTo f 256).length) ∧ Below w.heap.size w w' := by
  have hlist := list_any f
  have q : ∀ w, (Op.equalIn 10000 25 (.agg #[.int .u64 (wd f 0 : Nat), .int .u64 (wd f 1 : Nat), .int .u64 (wd f 2 : Nat), .int .u64 (wd f 3 : Nat)]) (.agg #[.int .u64 0, .int .u64 0, .int .u64 0, .int .u64 0])).run Try.prog w = .ok (sameW f fun _ => false) w := fun w => by
    rw [eqWords]; unfold sameW; simp only [wd_none]; rfl
  unfold setV wordsA at hlist ⊢
  by_cases h : sameW f (fun _ => false) = true
  · have hn := listTo_none f 256 ((sameW_iff _ _).1 h)
    rw [h] at q
    have Hn := Lib.hid hn
    clear hn h hlist
    go_enter Try.func20, Try.ntmps20
    go_wp2
    go_ret
    refine ⟨by rw [Hn.out]; rfl, (Below.refl _ _).alloc (Nat.le_refl _) _⟩
  · rw [show sameW f (fun _ => false) = false by simpa using h] at q
    have hl := listTo_length f 256
    have Hlist := Lib.hid hlist
    clear hlist h
    go_enter Try.func20, Try.ntmps20
    go_wp2_with (go_at_call 19; (with_reducible refine (Hlist.out _).mono ?_); rintro e w1 ⟨rfl, hb1⟩)
    go_ret
    exact ⟨rfl, below_after ((Below.refl _ _).alloc (Nat.le_refl _) _) hb1⟩
end Go.Proofs.Ytmondgamackcgaa
