/- The law VnameFew, out of what its functions tell. -/
import Derived.Test.YtmondgamackcgaaDoorVnO
import Derived.Test.YtmondgamackcgaaDoorPVnx2
namespace Go.Proofs.YtmondgamackcgaaDoor.Pure
open Go.RowKit Go.Proofs.YtmondgamackcgaaDoor.PVn Go.Proofs.YtmondgamackcgaaDoorW.PrintWords Go.Proofs.YtmondgamackcgaaDoorW.PrintLast Go.Proofs.YtmondgamackcgaaDoorW.PrintMore

theorem few_at (n : Nat) (h : n < 12) : ∃ x, nats ((⟨#[123, 125, 44, 58, 42, 43, 35, 47, 59, 63, 38, 32]⟩ : ByteArray).extract n (n + 1)) = [x] ∧ wordN x = false ∧ x ≠ 46 ∧ x ≠ 37 := by
  rw [nats_extract, show n + 1 - n = 1 from by omega]
  match n, h with
  | 0, _ => exact ⟨123, (by decide : ((nats (⟨#[123, 125, 44, 58, 42, 43, 35, 47, 59, 63, 38, 32]⟩ : ByteArray)).drop 0).take 1 = [123]), by decide, by decide, by decide⟩
  | 1, _ => exact ⟨125, (by decide : ((nats (⟨#[123, 125, 44, 58, 42, 43, 35, 47, 59, 63, 38, 32]⟩ : ByteArray)).drop 1).take 1 = [125]), by decide, by decide, by decide⟩
  | 2, _ => exact ⟨44, (by decide : ((nats (⟨#[123, 125, 44, 58, 42, 43, 35, 47, 59, 63, 38, 32]⟩ : ByteArray)).drop 2).take 1 = [44]), by decide, by decide, by decide⟩
  | 3, _ => exact ⟨58, (by decide : ((nats (⟨#[123, 125, 44, 58, 42, 43, 35, 47, 59, 63, 38, 32]⟩ : ByteArray)).drop 3).take 1 = [58]), by decide, by decide, by decide⟩
  | 4, _ => exact ⟨42, (by decide : ((nats (⟨#[123, 125, 44, 58, 42, 43, 35, 47, 59, 63, 38, 32]⟩ : ByteArray)).drop 4).take 1 = [42]), by decide, by decide, by decide⟩
  | 5, _ => exact ⟨43, (by decide : ((nats (⟨#[123, 125, 44, 58, 42, 43, 35, 47, 59, 63, 38, 32]⟩ : ByteArray)).drop 5).take 1 = [43]), by decide, by decide, by decide⟩
  | 6, _ => exact ⟨35, (by decide : ((nats (⟨#[123, 125, 44, 58, 42, 43, 35, 47, 59, 63, 38, 32]⟩ : ByteArray)).drop 6).take 1 = [35]), by decide, by decide, by decide⟩
  | 7, _ => exact ⟨47, (by decide : ((nats (⟨#[123, 125, 44, 58, 42, 43, 35, 47, 59, 63, 38, 32]⟩ : ByteArray)).drop 7).take 1 = [47]), by decide, by decide, by decide⟩
  | 8, _ => exact ⟨59, (by decide : ((nats (⟨#[123, 125, 44, 58, 42, 43, 35, 47, 59, 63, 38, 32]⟩ : ByteArray)).drop 8).take 1 = [59]), by decide, by decide, by decide⟩
  | 9, _ => exact ⟨63, (by decide : ((nats (⟨#[123, 125, 44, 58, 42, 43, 35, 47, 59, 63, 38, 32]⟩ : ByteArray)).drop 9).take 1 = [63]), by decide, by decide, by decide⟩
  | 10, _ => exact ⟨38, (by decide : ((nats (⟨#[123, 125, 44, 58, 42, 43, 35, 47, 59, 63, 38, 32]⟩ : ByteArray)).drop 10).take 1 = [38]), by decide, by decide, by decide⟩
  | 11, _ => exact ⟨32, (by decide : ((nats (⟨#[123, 125, 44, 58, 42, 43, 35, 47, 59, 63, 38, 32]⟩ : ByteArray)).drop 11).take 1 = [32]), by decide, by decide, by decide⟩
theorem q_succ (j : Nat) : ((j : Int) + 1).toNat = j + 1 := by omega
theorem one_size {o : ByteArray} {c : Nat} (h : nats o = [c]) : o.size = 1 := by rw [← nats_len, h]; rfl
theorem few_gen (s o : ByteArray) (hn : nameL false (nats s) = true) (i : Nat) (hs : s.size ≤ 200) (hi : i ≤ s.size) {c : Nat} (hc : nats o = [c]) (c1 : wordN c = false) (c2 : c ≠ 46) (c3 : c ≠ 37) :
    ((s.extract 0 i).size + o.size ≤ 9223372036854775807) ∧ ((s.extract 0 i ++ o).size + (s.extract i s.size).size ≤ 9223372036854775807) ∧ vname_May.f ((s.extract 0 i ++ o) ++ s.extract i s.size) = some false ∧ (s.size + o.size ≤ 9223372036854775807) ∧ vname_End.f (s ++ o) = some (s.size : Int) := by
  have hone := one_size hc
  have t1 : nameL false (nats ((s.extract 0 i ++ o) ++ s.extract i s.size)) = false := by
    cases hh : nameL false (nats ((s.extract 0 i ++ o) ++ s.extract i s.size)) with
    | false => rfl
    | true =>
      rw [nats_append, nats_append, hc] at hh
      have := name_chars _ _ hh c (by simp)
      rw [c1] at this
      rcases this with h | h | h
      · cases h
      · exact absurd h c2
      · exact absurd h c3
  have t2 : (endsS 0 (nats (s ++ o)) 0 0).2 = s.size := by
    rw [nats_append, hc, ends_app [c] _ false 0 0 hn (fun h => by cases h), Nat.zero_add, ends_stop c1 (fun h => c2 h.1) (by rw [trip_first c3]; rfl) c3, nats_len]
  have z1 : (s.extract 0 i).size ≤ s.size := by rw [ByteArray.size_extract]; omega
  have z2 : (s.extract i s.size).size ≤ s.size := by rw [ByteArray.size_extract]; omega
  have z3 : (s.extract 0 i ++ o).size = (s.extract 0 i).size + 1 := by rw [ByteArray.size_append, hone]
  have z4 : ((s.extract 0 i ++ o) ++ s.extract i s.size).size ≤ 1000 := by rw [ByteArray.size_append]; omega
  have z5 : (s ++ o).size = s.size + 1 := by rw [ByteArray.size_append, hone]
  exact ⟨by omega, by omega, by rw [may_f _ (by omega), t1], by omega, by rw [end_f _ (by omega), t2]⟩
theorem VnameFew : phalaropelaw05_VnameFew.Pure := by
  intro s x y _ hx hy
  have hx' : 0 ≤ x ∧ x ≤ 255 := by
    simp [Lit.wf, IntKind.min, IntKind.max, IntKind.signed, IntKind.bits] at hx
    omega
  have hy' : 0 ≤ y ∧ y ≤ 255 := by
    simp [Lit.wf, IntKind.min, IntKind.max, IntKind.signed, IntKind.bits] at hy
    omega
  refine ⟨0 + 1, ?_⟩
  unfold phalaropelaw05_VnameFew.f
  rw [awake5, Option.bind_some]
  by_cases h1 : (s.size : Int) > 200
  · rw [if_pos h1, phalaropelaw05_VnameFew.j0, if_pos rfl]
  rw [if_neg h1, may_f s (by omega), Option.bind_some]
  cases hn : nameL false (nats s) with
  | false => rw [phalaropelaw05_VnameFew.j0, if_pos (by decide)]
  | true =>
    have w1 : wrap64 ((s.size : Int) + 1) = (s.size : Int) + 1 := wrap_id (by omega) (by omega)
    have w2 : wrap64 x = x := wrap_id (by omega) (by omega)
    have w3 : wrap64 y = y := wrap_id (by omega) (by omega)
    have e1 : Int.tmod x ((s.size : Int) + 1) = x % ((s.size : Int) + 1) := Int.tmod_eq_emod_of_nonneg hx'.1
    have e2 : Int.tmod y 12 = y % 12 := Int.tmod_eq_emod_of_nonneg hy'.1
    have r0 : 0 ≤ x % ((s.size : Int) + 1) := Int.emod_nonneg _ (by omega)
    have r1 : x % ((s.size : Int) + 1) < (s.size : Int) + 1 := Int.emod_lt_of_pos _ (by omega)
    obtain ⟨i, hi⟩ : ∃ i : Nat, x % ((s.size : Int) + 1) = i := ⟨(x % ((s.size : Int) + 1)).toNat, by omega⟩
    obtain ⟨j, hj⟩ : ∃ j : Nat, y % 12 = j := ⟨(y % 12).toNat, by omega⟩
    have hj12 : j < 12 := by omega
    have hi12 : i ≤ s.size := by omega
    have w4 : wrap64 ((j : Int) + 1) = (j : Int) + 1 := wrap_id (by omega) (by omega)
    have q1 : ((j : Int)).toNat = j := Int.toNat_natCast j
    have q2 : ((j : Int) + 1).toNat = j + 1 := q_succ j
    have q3 : ((i : Int)).toNat = i := Int.toNat_natCast i
    rw [phalaropelaw05_VnameFew.j0, if_neg (by decide), w1, w2, w3, e1, e2, hi, hj, w4, q1, q2, q3]
    obtain ⟨c, hc, c1, c2, c3⟩ := few_at j hj12
    generalize (⟨#[123, 125, 44, 58, 42, 43, 35, 47, 59, 63, 38, 32]⟩ : ByteArray).extract j (j + 1) = o at hc ⊢
    obtain ⟨g1, g2, g3, g4, g5⟩ := few_gen s o hn i (by omega) hi12 hc c1 c2 c3
    clear hx hy hi hj e1 e2 r0 r1 w1 w2 w3
    rw [if_neg (by omega), if_pos (by omega), if_pos (by omega), if_pos (by omega), if_pos rfl, if_pos (by omega), if_pos (by omega), if_pos g1, if_pos g2, g3, Option.bind_some, if_neg (by decide), if_pos g4, g5, Option.bind_some]
    simp
end Go.Proofs.YtmondgamackcgaaDoor.Pure
