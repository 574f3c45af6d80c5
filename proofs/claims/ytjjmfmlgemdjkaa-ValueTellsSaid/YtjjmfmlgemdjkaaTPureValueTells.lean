/- The law ValueTells, out of what its functions tell. -/
import Derived.Test.YtjjmfmlgemdjkaaTValW
import Derived.Test.YtjjmfmlgemdjkaaTPValx16
namespace Go.Proofs.Ytjjmfmlgemdjkaa.Pure
open Go.RowKit Go.Proofs.Ytjjmfmlgemdjkaa Go.Proofs.Ytjjmfmlgemdjkaa.PVal Go.Proofs.Ytjjmfmlgemdjkaa.Val Go.Proofs.YtjjmfmlgemdjkaaW.PrintWords Go.Proofs.YtjjmfmlgemdjkaaW.PrintLast Go.Proofs.YtjjmfmlgemdjkaaW.PrintMore

theorem valid_f {v : V} (h : FewP v) : value_Valid.f v.1 v.2.1 v.2.2.1 v.2.2.2 = some ((texts v).all validU) := by
  unfold value_Valid.f
  have h1 := h.l
  have h2 := h.p
  rw [if_pos ⟨⟨by omega, by omega⟩, fun t ht => by have := texts_size h t ht; omega⟩]
  rfl
theorem tells_in {v w : V} (hv : FewP v) (hw : FewP w) : phalaropelaw08_ValueTells.j0 1001 true false v.1 v.2.1 v.2.2.1 v.2.2.2 w.1 w.2.1 w.2.2.1 w.2.2.2 = some true := by
  have sv := hv.small
  have sw := hw.small
  have sc := can_small sv
  rw [phalaropelaw08_ValueTells.j0, if_neg (by decide), texts_ref sv 1000 (by omega), Option.bind_some, if_pos rfl, defined_f sv 1000 (by omega), Option.bind_some, defined,
    show decide (((texts v).length : Int) > 0) = decide (0 < (texts v).length) from decide_eq_decide.2 (by omega), beq_self_eq_true, if_pos rfl,
    texts_f sv 1000 (by omega), Option.bind_some, eqs_f _ _ (texts_small sv) 1000 (by omega), Option.bind_some, decide_eq_true rfl, if_pos rfl, canon_f sv 1000 (by omega), Option.bind_some, canon_ref sv 1000 (by omega), Option.bind_some,
    very_f sc 1000 (by omega), Option.bind_some, if_pos rfl, valid_f hv, Option.bind_some, valid_ref hv 1000 (by omega), Option.bind_some, beq_self_eq_true, if_pos rfl, compare_f sv sw 1000 (by omega), Option.bind_some,
    compare_ref sv sw 1000 (by omega), Option.bind_some, if_pos rfl, same_f sv sw 1000 (by omega), Option.bind_some, same_ref sv sw 1000 (by omega), Option.bind_some, beq_self_eq_true]
theorem ValueTells (a0 : Int) (a1 : ByteArray) (a2 : List ByteArray) (a3 : List S76) (b0 : Int) (b1 : ByteArray) (b2 : List ByteArray) (b3 : List S76) : ∃ k, phalaropelaw08_ValueTells.f k a0 a1 a2 a3 b0 b1 b2 b3 = some true := by
  refine ⟨1000 + 1, ?_⟩
  obtain ⟨x, hx, hfx⟩ := few_f (a0, a1, a2, a3) 1001 (by omega)
  obtain ⟨y, hy, hfy⟩ := few_f (b0, b1, b2, b3) 1001 (by omega)
  dsimp only at hx hy
  have out : phalaropelaw08_ValueTells.j0 (1000 + 1) true true a0 a1 a2 a3 b0 b1 b2 b3 = some true := by rw [phalaropelaw08_ValueTells.j0, if_pos rfl]
  unfold phalaropelaw08_ValueTells.f
  rw [awake_f 1001 (by omega), Option.bind_some, hx, Option.bind_some, hy, Option.bind_some, out]
  cases x with
  | false => rfl
  | true =>
    rw [if_pos rfl]
    cases y with
    | false => rw [Bool.not_false]; exact out
    | true => rw [Bool.not_true]; exact tells_in (v := (a0, a1, a2, a3)) (w := (b0, b1, b2, b3)) (hfx rfl) (hfy rfl)
end Go.Proofs.Ytjjmfmlgemdjkaa.Pure

