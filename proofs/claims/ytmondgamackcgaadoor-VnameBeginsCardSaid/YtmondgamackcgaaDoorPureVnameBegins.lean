/- The law VnameBegins, out of what its functions tell. -/
import Derived.Test.YtmondgamackcgaaDoorVnO
import Derived.Test.YtmondgamackcgaaDoorPVnx6
namespace Go.Proofs.YtmondgamackcgaaDoor.Pure
open Go.RowKit Go.Proofs.YtmondgamackcgaaDoor.PVn Go.Proofs.YtmondgamackcgaaDoorW.PrintWords Go.Proofs.YtmondgamackcgaaDoorW.PrintLast Go.Proofs.YtmondgamackcgaaDoorW.PrintMore

theorem nats_to (s : ByteArray) (n : Nat) : nats (s.extract 0 n) = (nats s).take n := by rw [nats_extract, List.drop_zero, Nat.sub_zero]
theorem VnameBegins : phalaropelaw05_VnameBegins.Pure := by
  intro s x _ _
  refine ⟨0 + 2, ?_⟩
  unfold phalaropelaw05_VnameBegins.f
  rw [awake5, Option.bind_some]
  by_cases h1 : (s.size : Int) > 200
  · rw [if_pos h1, phalaropelaw05_VnameBegins.j0, if_pos rfl]
  rw [if_neg h1]
  by_cases h2 : (x.size : Int) > 200
  · rw [decide_eq_true h2, phalaropelaw05_VnameBegins.j0, if_pos rfl]
  obtain ⟨i1, i2, i3, i4⟩ := ends_inv (nats s) 0 0 (Nat.le_refl _)
  have i5 := ends_cut (nats s) 0 0 (Nat.le_refl _)
  have i6 := ends_more (nats x) (nats s) 0 0 (Nat.le_refl _)
  have i7 := name_ends (l := nats s)
  have i8 : s.size = 0 → nats s = [] := fun h => List.eq_nil_of_length_eq_zero (by rw [nats_len]; exact h)
  have i9 : nats s = [] → s.size = 0 := fun h => by rw [← nats_len, h]; rfl
  have hbs := bad_f s (by omega)
  have hes := end_f s (by omega)
  rw [Nat.sub_zero] at i5
  rw [Nat.zero_add, nats_len] at i2 i6
  rw [nats_len] at i7
  rw [decide_eq_false h2, phalaropelaw05_VnameBegins.j0, if_neg (by decide), hbs, Option.bind_some, hes, Option.bind_some]
  generalize hn : (endsS 0 (nats s) 0 0).1 = n at *
  generalize hm : (endsS 0 (nats s) 0 0).2 = m at *
  have hx : (s ++ x).size = s.size + x.size := ByteArray.size_append
  have b1 : vname_Bad.f (s.extract 0 n) = some (n : Int) := by rw [bad_f _ (by rw [ByteArray.size_extract]; omega), nats_to, i5]
  have b2 : n < s.size → vname_Bad.f (s ++ x) = some (n : Int) := fun h => by rw [bad_f _ (by omega), nats_append, i6 h]
  have b3 : ¬ m = 0 → vname_May.f (s.extract 0 m) = some true := fun h => by
    rw [may_f _ (by rw [ByteArray.size_extract]; omega), nats_to]
    rcases i4 with i4 | ⟨k, k1, k2, k3, k4⟩
    · exact absurd i4 h
    · rw [Nat.zero_add] at k3
      rw [k3]
      exact congrArg some k4
  have b4 : vname_May.f s = some (decide (m = s.size ∧ 0 < m)) := by
    rw [may_f s (by omega)]
    refine congrArg some ?_
    rw [Bool.eq_iff_iff, decide_eq_true_eq, i7]
    constructor
    · rintro ⟨a, b⟩
      refine ⟨b, ?_⟩
      rcases Nat.eq_zero_or_pos m with h | h
      · exact absurd (i8 (by omega)) a
      · exact h
    · rintro ⟨a, b⟩
      exact ⟨fun h => by have := i9 h; omega, a⟩
  clear i4 i5 i6 i7 i8 i9 hbs hes hn hm
  have fin : ∀ b : Bool, b = decide (m = s.size ∧ 0 < m) → (if (m : Int) = (s.size : Int) then some (b == decide ((m : Int) > 0)) else some (b == false)) = some true := by
    rintro b rfl
    by_cases h : m = s.size
    · rw [if_pos (by omega)]
      refine congrArg some ?_
      rw [beq_iff_eq]
      by_cases h0 : 0 < m
      · rw [decide_eq_true ⟨h, h0⟩, decide_eq_true (by omega)]
      · rw [decide_eq_false (fun e => h0 e.2), decide_eq_false (by omega)]
    · rw [if_neg (by omega), decide_eq_false (fun e => h e.1)]
      rfl
  rw [if_neg (by omega), if_neg (by omega), decide_eq_false (by omega), phalaropelaw05_VnameBegins.j1, if_neg (by decide), if_pos rfl]
  by_cases hm0 : m = 0
  · rw [if_pos (by omega), if_pos (by omega), if_pos (by omega), Int.toNat_natCast, b1, Option.bind_some, if_pos rfl]
    by_cases hns : n = s.size
    · rw [if_pos (by omega), b4, Option.bind_some]
      exact fin _ rfl
    · rw [if_neg (by omega), if_pos (by omega), b2 (by omega), Option.bind_some, if_pos rfl, b4, Option.bind_some]
      exact fin _ rfl
  · rw [if_neg (by omega), if_pos (by omega), if_pos (by omega), Int.toNat_natCast, b3 hm0, Option.bind_some, if_pos rfl, if_pos (by omega), if_pos (by omega), Int.toNat_natCast, b1, Option.bind_some, if_pos rfl]
    by_cases hns : n = s.size
    · rw [if_pos (by omega), b4, Option.bind_some]
      exact fin _ rfl
    · rw [if_neg (by omega), if_pos (by omega), b2 (by omega), Option.bind_some, if_pos rfl, b4, Option.bind_some]
      exact fin _ rfl
end Go.Proofs.YtmondgamackcgaaDoor.Pure
