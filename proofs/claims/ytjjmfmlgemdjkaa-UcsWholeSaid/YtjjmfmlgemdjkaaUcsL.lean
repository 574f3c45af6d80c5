/- Plain: One of layer 1's reference at a surrogate, too (printed by gen_ucs.py). -/
import Derived.Test.YtjjmfmlgemdjkaaUcsO
namespace Go.Proofs.Ytjjmfmlgemdjkaa.Pure
open Go.RowKit Go.Proofs.Ytjjmfmlgemdjkaa.PUcs Go.Proofs.YtjjmfmlgemdjkaaW.PrintWords Go.Proofs.YtjjmfmlgemdjkaaW.PrintLast Go.Proofs.YtjjmfmlgemdjkaaW.PrintMore

theorem one_le (c : Nat) (hle : c ≤ 1114111) (k : Nat) : ∃ s, phalaroperef01_One.f (k + 4) (c : Int) = some s ∧ nats s = encN c := by
  unfold phalaroperef01_One.f
  rw [tail0 c hle, tail1 c hle, tail2 c hle]
  simp only [Option.bind_some]
  by_cases h1 : c < 128
  · rw [if_pos (by omega)]
    refine ⟨_, rfl, ?_⟩
    rw [nats_nums]
    unfold encN
    rw [if_pos h1]
    simp
    omega
  rw [if_neg (by omega)]
  by_cases h2 : c < 2048
  · rw [if_pos (by omega)]
    refine ⟨_, rfl, ?_⟩
    rw [nats_nums, show (64 : Int) = ((64 : Nat) : Int) from rfl, tdiv_nat, wrap_id (x := ((c / 64 : Nat) : Int)) (by omega) (by omega), wrap_id (by omega) (by omega)]
    unfold encN
    rw [if_neg h1, if_pos h2]
    simp
    omega
  rw [if_neg (by omega)]
  by_cases h3 : c < 65536
  · rw [if_pos (by omega)]
    refine ⟨_, rfl, ?_⟩
    rw [nats_nums, show (4096 : Int) = ((4096 : Nat) : Int) from rfl, tdiv_nat, wrap_id (x := ((c / 4096 : Nat) : Int)) (by omega) (by omega), wrap_id (by omega) (by omega)]
    unfold encN
    rw [if_neg h1, if_neg h2, if_pos h3]
    simp
    omega
  rw [if_neg (by omega)]
  refine ⟨_, rfl, ?_⟩
  rw [nats_nums, show (262144 : Int) = ((262144 : Nat) : Int) from rfl, tdiv_nat, wrap_id (x := ((c / 262144 : Nat) : Int)) (by omega) (by omega), wrap_id (by omega) (by omega)]
  unfold encN
  rw [if_neg h1, if_neg h2, if_neg h3]
  simp
  omega

end Go.Proofs.Ytjjmfmlgemdjkaa.Pure
