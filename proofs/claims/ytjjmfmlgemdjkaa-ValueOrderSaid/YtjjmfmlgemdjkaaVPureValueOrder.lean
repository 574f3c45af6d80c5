/- The law ValueOrder, out of what its functions tell. -/
import Derived.Test.YtjjmfmlgemdjkaaVValQ
import Derived.Test.YtjjmfmlgemdjkaaVPValx8
namespace Go.Proofs.Ytjjmfmlgemdjkaa.Pure
open Go.RowKit Go.Proofs.Ytjjmfmlgemdjkaa Go.Proofs.Ytjjmfmlgemdjkaa.PVal Go.Proofs.Ytjjmfmlgemdjkaa.Val Go.Proofs.YtjjmfmlgemdjkaaW.PrintWords Go.Proofs.YtjjmfmlgemdjkaaW.PrintLast Go.Proofs.YtjjmfmlgemdjkaaW.PrintMore

theorem order_in {a b c : V} (ha : FewP a) (hb : FewP b) (hc : FewP c) : phalaropelaw08_ValueOrder.j0 1001 true false a.1 a.2.1 a.2.2.1 a.2.2.2 b.1 b.2.1 b.2.2.1 b.2.2.2 c.1 c.2.1 c.2.2.1 c.2.2.2 = some true := by
  have T := cmpP_tot
  rw [phalaropelaw08_ValueOrder.j0, if_neg (by decide), compare_f ha.small hb.small 1000 (by omega), Option.bind_some, compare_f hb.small hc.small 1000 (by omega), Option.bind_some, compare_f ha.small hc.small 1000 (by omega), Option.bind_some, if_pos rfl,
    compare_f hb.small ha.small 1000 (by omega), Option.bind_some]
  have h1 := T.anti (key a) (key b)
  have h2 := T.rng (key a) (key b)
  have h3 := T.rng (key b) (key a)
  have h4 := T.le (key a) (key b) (key c)
  rw [if_pos (by unfold wrap64; omega), compare_f ha.small ha.small 1000 (by omega), Option.bind_some, if_pos (T.refl _), same_f ha.small hb.small 1000 (by omega)]
  simp only [Option.bind_some, beq_self_eq_true, if_true]
  rw [if_pos (show cmpP (key a) (key b) ≥ -1 by omega), decide_eq_true (show cmpP (key a) (key b) ≤ 1 by omega)]
  by_cases g1 : cmpP (key a) (key b) > 0
  · rw [if_pos g1]
  · rw [if_neg g1]
    by_cases g2 : cmpP (key b) (key c) > 0
    · rw [if_pos g2]
    · rw [if_neg g2, if_pos (h4 (by omega) (by omega))]

theorem ValueOrder (a0 : Int) (a1 : ByteArray) (a2 : List ByteArray) (a3 : List S76) (b0 : Int) (b1 : ByteArray) (b2 : List ByteArray) (b3 : List S76) (c0 : Int) (c1 : ByteArray) (c2 : List ByteArray) (c3 : List S76) :
    ∃ k, phalaropelaw08_ValueOrder.f k a0 a1 a2 a3 b0 b1 b2 b3 c0 c1 c2 c3 = some true := by
  refine ⟨1000 + 1, ?_⟩
  obtain ⟨x, hx, hfx⟩ := few_f (a0, a1, a2, a3) 1001 (by omega)
  obtain ⟨y, hy, hfy⟩ := few_f (b0, b1, b2, b3) 1001 (by omega)
  obtain ⟨z, hz, hfz⟩ := few_f (c0, c1, c2, c3) 1001 (by omega)
  dsimp only at hx hy hz
  have out : phalaropelaw08_ValueOrder.j0 (1000 + 1) true true a0 a1 a2 a3 b0 b1 b2 b3 c0 c1 c2 c3 = some true := by rw [phalaropelaw08_ValueOrder.j0, if_pos rfl]
  unfold phalaropelaw08_ValueOrder.f
  rw [awake_f 1001 (by omega), Option.bind_some, hx, Option.bind_some, hy, Option.bind_some, hz, Option.bind_some, out]
  cases x with
  | false => rfl
  | true =>
    rw [if_pos rfl]
    cases y with
    | false => rfl
    | true =>
      rw [if_pos rfl]
      cases z with
      | false => exact out
      | true => exact order_in (hfx rfl) (hfy rfl) (hfz rfl)
end Go.Proofs.Ytjjmfmlgemdjkaa.Pure

