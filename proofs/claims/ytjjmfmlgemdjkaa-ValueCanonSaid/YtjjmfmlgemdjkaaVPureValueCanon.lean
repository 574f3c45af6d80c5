/- The law ValueCanon, out of what its functions tell. -/
import Derived.Test.YtjjmfmlgemdjkaaVValS
import Derived.Test.YtjjmfmlgemdjkaaVPValx17
namespace Go.Proofs.Ytjjmfmlgemdjkaa.Pure
open Go.RowKit Go.Proofs.Ytjjmfmlgemdjkaa Go.Proofs.Ytjjmfmlgemdjkaa.PVal Go.Proofs.Ytjjmfmlgemdjkaa.Val Go.Proofs.YtjjmfmlgemdjkaaW.PrintWords Go.Proofs.YtjjmfmlgemdjkaaW.PrintLast Go.Proofs.YtjjmfmlgemdjkaaW.PrintMore

theorem valid_f {v : V} (h : FewP v) : value_Valid.f v.1 v.2.1 v.2.2.1 v.2.2.2 = some ((texts v).all validU) := by
  unfold value_Valid.f
  have h1 := h.l
  have h2 := h.p
  rw [if_pos ⟨⟨by omega, by omega⟩, fun t ht => by have := texts_size h t ht; omega⟩]
  rfl
theorem ValueCanon (a0 : Int) (a1 : ByteArray) (a2 : List ByteArray) (a3 : List S76) : ∃ k, phalaropelaw08_ValueCanon.f k a0 a1 a2 a3 = some true := by
  refine ⟨1000, ?_⟩
  obtain ⟨x, hx, hfx⟩ := few_f (a0, a1, a2, a3) 1000 (by omega)
  obtain ⟨v, hv⟩ : ∃ v : V, v = (a0, a1, a2, a3) := ⟨_, rfl⟩
  rw [← hv] at hx hfx
  have e0 : a0 = v.1 := by rw [hv]
  have e1 : a1 = v.2.1 := by rw [hv]
  have e2 : a2 = v.2.2.1 := by rw [hv]
  have e3 : a3 = v.2.2.2 := by rw [hv]
  rw [e0, e1, e2, e3]
  clear e0 e1 e2 e3 hv
  unfold phalaropelaw08_ValueCanon.f
  rw [awake_f 1000 (by omega), Option.bind_some, hx, Option.bind_some]
  cases x with
  | false => rfl
  | true =>
    have hf := hfx rfl
    have hs := hf.small
    have hc := can_small hs
    have hcf := can_few hf
    have ht := texts_small hs
    rw [if_pos rfl, canon_f hs 1000 (by omega), Option.bind_some, texts_f hs 1000 (by omega), Option.bind_some, of_f _ _ (by omega), Option.bind_some, if_pos rfl, canon_f hc 1000 (by omega), Option.bind_some, can_can,
      very_f hc 1000 (by omega), Option.bind_some, if_pos rfl, same_f hs hc 1000 (by omega), Option.bind_some, key_can, cmpP_tot.refl, if_pos (by rfl), defined_f hs 1000 (by omega), Option.bind_some, ofV_texts]
    dsimp only
    rw [beq_self_eq_true, if_pos rfl, very_f hc 1000 (by omega), Option.bind_some, if_pos rfl, defined_f hc 1000 (by omega), Option.bind_some, Option.bind_some, defined, defined, texts_can, beq_self_eq_true, if_pos rfl,
      valid_f hcf, Option.bind_some, valid_f hf, Option.bind_some, texts_can, beq_self_eq_true]
end Go.Proofs.Ytjjmfmlgemdjkaa.Pure

