/- The law ValueOnly, out of what its functions tell. -/
import Derived.Test.YtjjmfmlgemdjkaaVValS
import Derived.Test.YtjjmfmlgemdjkaaVValOnly
namespace Go.Proofs.Ytjjmfmlgemdjkaa.Pure
open Go.RowKit Go.Proofs.Ytjjmfmlgemdjkaa Go.Proofs.Ytjjmfmlgemdjkaa.PVal Go.Proofs.Ytjjmfmlgemdjkaa.Val Go.Proofs.YtjjmfmlgemdjkaaW.PrintWords Go.Proofs.YtjjmfmlgemdjkaaW.PrintLast Go.Proofs.YtjjmfmlgemdjkaaW.PrintMore

theorem valid_f {v : V} (h : FewP v) : value_Valid.f v.1 v.2.1 v.2.2.1 v.2.2.2 = some ((texts v).all validU) := by
  unfold value_Valid.f
  have h1 := h.l
  have h2 := h.p
  rw [if_pos ⟨⟨by omega, by omega⟩, fun t ht => by have := texts_size h t ht; omega⟩]
  rfl
theorem only_in {v x : V} (hv : FewP v) (hx : FewP x) (h : texts x = texts v) (hk : key x = key v) :
    phalaropelaw08_ValueOnly.j1 1001 true v.1 v.2.1 v.2.2.1 v.2.2.2 x.1 x.2.1 x.2.2.1 x.2.2.2 = some true := by
  have sv := hv.small
  have sx := hx.small
  have ht := texts_small sv
  rw [phalaropelaw08_ValueOnly.j1, if_pos rfl, same_f sv sx 1000 (by omega), Option.bind_some, hk, cmpP_tot.refl, if_pos (by rfl), defined_f sv 1000 (by omega), Option.bind_some, defined_f sx 1000 (by omega), Option.bind_some, defined, defined, h,
    beq_self_eq_true, if_pos rfl, valid_f hv, Option.bind_some, valid_f hx, Option.bind_some, h, beq_self_eq_true, if_pos rfl, texts_f sv 1000 (by omega), Option.bind_some, texts_f sx 1000 (by omega), Option.bind_some, h, eqs_f _ _ ht 1000 (by omega), Option.bind_some,
    decide_eq_true rfl]
theorem ValueOnly (a0 : Int) (a1 : ByteArray) (a2 : List ByteArray) (a3 : List S76) (b0 : Int) (b1 : ByteArray) (b2 : List ByteArray) (b3 : List S76) : ∃ k, phalaropelaw08_ValueOnly.f k a0 a1 a2 a3 b0 b1 b2 b3 = some true := by
  refine ⟨1000 + 2, ?_⟩
  obtain ⟨x, hx, hfx⟩ := few_f (a0, a1, a2, a3) 1002 (by omega)
  obtain ⟨y, hy, hfy⟩ := few_f (b0, b1, b2, b3) 1002 (by omega)
  dsimp only at hx hy
  have out : phalaropelaw08_ValueOnly.j0 (1000 + 2) true true a0 a1 a2 a3 b0 b1 b2 b3 = some true := by rw [phalaropelaw08_ValueOnly.j0, if_pos rfl]
  unfold phalaropelaw08_ValueOnly.f
  rw [awake_f 1002 (by omega), Option.bind_some, hx, Option.bind_some, hy, Option.bind_some, out]
  cases x with
  | false => rfl
  | true =>
    rw [if_pos rfl]
    cases y with
    | false => exact out
    | true =>
      have hv := hfx rfl
      have hw := hfy rfl
      show phalaropelaw08_ValueOnly.j0 (1000 + 2) true false a0 a1 a2 a3 b0 b1 b2 b3 = some true
      rw [phalaropelaw08_ValueOnly.j0, if_neg (by decide)]
      by_cases h1 : a0 = 1
      · rw [if_pos h1]
        refine only_in (v := (a0, a1, a2, a3)) (x := (a0, a1, b2, b3)) hv ⟨hv.s, hw.l, hw.p, hw.ls, hw.ps⟩ ?_ ?_
        · simp [texts, textsV, h1]
        · simp [key, can, canB, texts, textsV, h1]
      · rw [if_neg h1]
        by_cases h2 : a0 = 2
        · rw [if_pos h2]
          refine only_in (v := (a0, a1, a2, a3)) (x := (a0, b1, a2, b3)) hv ⟨hw.s, hv.l, hw.p, hv.ls, hw.ps⟩ ?_ ?_
          · simp [texts, textsV, h2]
          · simp [key, can, canB, texts, textsV, h2]
        · rw [if_neg h2]
          by_cases h3 : a0 = 3
          · rw [if_pos h3]
            refine only_in (v := (a0, a1, a2, a3)) (x := (a0, b1, b2, a3)) hv ⟨hw.s, hw.l, hv.p, hw.ls, hv.ps⟩ ?_ ?_
            · simp [texts, textsV, h3]
            · simp [key, can, canB, texts, textsV, h3]
          · rw [if_neg h3]
            refine only_in (v := (a0, a1, a2, a3)) (x := (a0, b1, b2, b3)) hv ⟨hw.s, hw.l, hw.p, hw.ls, hw.ps⟩ ?_ ?_
            · simp [texts, textsV, h1, h2, h3]
            · simp [key, can, canB, texts, textsV, h1, h2, h3]
end Go.Proofs.Ytjjmfmlgemdjkaa.Pure

