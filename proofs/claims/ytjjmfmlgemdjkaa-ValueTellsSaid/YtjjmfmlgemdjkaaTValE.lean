/- cmp.Compare of two texts. -/
import Derived.Test.YtjjmfmlgemdjkaaTValD
import Derived.Laws.Cover1
namespace Go.Proofs.Ytjjmfmlgemdjkaa
open Go.RowKit Go.Shelf Go.Proofs.YtjjmfmlgemdjkaaW.PrintWords Go.Proofs.YtjjmfmlgemdjkaaW.PrintMore Go.Proofs.YtjjmfmlgemdjkaaW.PrintLast

def cmpS (a b : ByteArray) : Int := if Op.bytesLess a.toList b.toList = true then -1 else if a.toList = b.toList then 0 else 1

theorem isNaN_any (a : ByteArray) (w : World) : Calls Try.prog 85 #[.string a] w fun e w' => e = .returned (.bool false) ∧ w' = w := by
  go_enter Try.func85, Try.ntmps85
  go_wp2
  go_ret
  exact ⟨by simp, rfl⟩

set_option maxHeartbeats 1000000 in
theorem cmpS_any (a b : ByteArray) (w : World) : Calls Try.prog 83 #[.string a, .string b] w fun e w' => e = .returned (.int .i64 (cmpS a b)) ∧ Below w.heap.size w w' := by
  unfold cmpS
  by_cases h1 : Op.bytesLess a.toList b.toList = true
  · rw [if_pos h1]
    go_enter Try.func83, Try.ntmps83
    go_wp2_with fail
    refine (isNaN_any a _).mono ?_
    rintro e w2 ⟨rfl, rfl⟩
    go_wp2_with fail
    refine (isNaN_any b _).mono ?_
    rintro e w3 ⟨rfl, rfl⟩
    go_wp2
    go_ret
    exact ⟨rfl, Below.refl _ _⟩
  · rw [if_neg h1]
    replace h1 := Bool.eq_false_iff.mpr h1
    by_cases h2 : a.toList = b.toList
    · rw [if_pos h2]
      have h3 : (a.toList == b.toList) = true := by simp [h2]
      go_enter Try.func83, Try.ntmps83
      go_wp2_with fail
      refine (isNaN_any a _).mono ?_
      rintro e w2 ⟨rfl, rfl⟩
      go_wp2_with fail
      refine (isNaN_any b _).mono ?_
      rintro e w3 ⟨rfl, rfl⟩
      clear h2
      go_wp2
      go_ret
      exact ⟨rfl, Below.refl _ _⟩
    · rw [if_neg h2]
      have h3 : (a.toList == b.toList) = false := by simp [h2]
      go_enter Try.func83, Try.ntmps83
      go_wp2_with fail
      refine (isNaN_any a _).mono ?_
      rintro e w2 ⟨rfl, rfl⟩
      go_wp2_with fail
      refine (isNaN_any b _).mono ?_
      rintro e w3 ⟨rfl, rfl⟩
      clear h2
      go_wp2
      go_ret
      exact ⟨rfl, Below.refl _ _⟩

theorem field52_0 (k : Int) (v1 v2 v3 : Value) (w : World) : (Instr.field 52 (.agg #[.int .i64 k, v1, v2, v3]) 0).run Try.prog w = .ok (.int .i64 k) w := by
  simp [Instr.field, run_underlying Try.underlying52, part, asAgg, Result.andThen]

end Go.Proofs.Ytjjmfmlgemdjkaa

