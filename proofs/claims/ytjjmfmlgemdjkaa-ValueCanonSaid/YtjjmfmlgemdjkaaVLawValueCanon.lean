/- The row of the law ValueCanon: what is left of a value is canonical already, and the same; for every input, whatever its size; without conditions. -/
import Derived.Test.YtjjmfmlgemdjkaaRows
import Derived.Test.YtjjmfmlgemdjkaaVPValx17
import Derived.Test.YtjjmfmlgemdjkaaVValRow
import Derived.Test.YtjjmfmlgemdjkaaVPureValueCanon
namespace Go.Proofs.Ytjjmfmlgemdjkaa.valueCanon
open Go.ChangeShapes Go.WideShapes Go.ChangeAt Go.RowKit Go.Proofs.Ytjjmfmlgemdjkaa.VRow
open Go.ChangeMaps (open_string shut_string)
set_option maxRecDepth 100000 in
theorem lifted (os : Os) (started : os.Started) (H : Type) (enc : TypeId × Value → H) :
    ReturnsInHanded {} Try.checked os 19 .any (Rows.valueCanonSpec.pre6 enc Try.prog Try.f19 Rows.valueCanonRow.domain false) (Rows.valueCanonSpec.post enc Try.prog Try.f19 false true false false) := by
  refine returnsInHanded_of_change_sized (C := Try.checked) own started (by kernel_rfl) Try.func19
    (ChangeSpec.witness6 (enc := enc) (C := Try.checked) false ⟨#[], #[.agg #[.int .i64 0, .string ByteArray.empty, .slice none 0 0, .slice none 0 0]], []⟩ 8 (by kernel_rfl) (by kernel_rfl) (by kernel_rfl) (by kernel_rfl)) ?_
  intro W base args ds gs before hval0 hW hcnd _ _
  have hval : ∀ (j : Nat) t v, Try.f19.params[j]? = some t → args[j]? = some v → Value.okWide Try.prog W .any base t v := hval0
  have hW' := hW
  obtain ⟨p, q, hA0, hV, rfl, hfz, hnd⟩ := hW
  have hA : DataW.TrodAll enc Try.prog W 0 (fun _ => true) true Try.f19.params.toList args.toList ds p := hA0
  rw [Try.params19] at hA hval
  obtain ⟨v0, vs0, d0, ds0, p0, q0, hargs, rfl, rfl, h0, r0⟩ := trodAll_cons hA
  obtain ⟨rfl, rfl, rfl⟩ := trodAll_nil r0
  obtain rfl : args = #[v0] := by cases args; simp_all
  obtain ⟨rfl, rfl⟩ := trodVars_none hV
  have k0 := h0
  have lt0 : ∀ x ∈ p0, x.block < W.heap.size := by obtain ⟨m, hm⟩ := k0; exact DataW.trod_lt m _ _ _ hm
  obtain ⟨a0_0, a0_1, A0_2, c0_2, l0_2, A0_3, c0_3, l0_3, rfl, hr0_2, hc0_2, hr0_3, hc0_3⟩ := value_of (hval 0 52 v0 rfl rfl) h0
  clear hA0 hval0
  obtain ⟨k, hk⟩ := Pure.ValueCanon a0_0 a0_1 l0_2 l0_3
  refine (PVal.phalaropelaw08_ValueCanon.calls k a0_0 a0_1 A0_2 c0_2 l0_2 A0_3 c0_3 l0_3 true W hr0_2 hc0_2 hr0_3 hc0_3 hk rfl).mono fun e W' ⟨he, bel⟩ => ?_
  subst he
  exact ⟨_, rfl, _, _, _, [], _, [], hW', trodAll_mk1 (shut_bool Try.underlying4 _), (trodAll_cons_mk (Below.trod laidOut (by kernel_rfl) (of_decide_eq_true (by kernel_rfl)) k0 bel lt0) trodAll_mk0), rfl, bel.frame _, fun h => by cases h⟩
theorem over : Rows.valueCanonRow.holds Try.pinned (OpenSpec.ofChange Rows.valueCanonSpec) :=
  OpenClaim.holds_of_wide 19 Try.f19 rfl rfl rfl rfl rfl rfl rfl ⟨rfl, rfl, rfl, rfl, rfl⟩ rfl rfl rfl rfl rfl (by kernel_rfl) Try.func19 (by kernel_rfl)
    (of_decide_eq_true (by kernel_rfl)) (by unfold Func.isWrapper; first | (rw [if_pos (by decide +kernel)]; kernel_rfl) | (rw [if_neg (by decide +kernel)]; exact ⟨rfl, rfl⟩))
    (fun os started H enc _ => lifted os started H enc)
theorem proved : Rows.ValueCanonSaid := over
#print axioms proved
end Go.Proofs.Ytjjmfmlgemdjkaa.valueCanon
namespace Go.Proofs.Ytjjmfmlgemdjkaa
/-- The row, under a short name, for the claim. -/
theorem valueCanon_holds : Rows.ValueCanonSaid := valueCanon.proved
end Go.Proofs.Ytjjmfmlgemdjkaa

