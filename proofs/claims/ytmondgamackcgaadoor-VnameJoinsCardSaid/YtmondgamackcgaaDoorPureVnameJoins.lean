/- The law VnameJoins, out of what its functions tell. -/
import Derived.Test.YtmondgamackcgaaDoorVnO
import Derived.Test.YtmondgamackcgaaDoorPVnx5
namespace Go.Proofs.YtmondgamackcgaaDoor.Pure
open Go.RowKit Go.Proofs.YtmondgamackcgaaDoor.PVn Go.Proofs.YtmondgamackcgaaDoorW.PrintWords Go.Proofs.YtmondgamackcgaaDoorW.PrintLast Go.Proofs.YtmondgamackcgaaDoorW.PrintMore

theorem VnameJoins : phalaropelaw05_VnameJoins.Pure := by
  intro a b _ _
  refine ⟨0 + 1, ?_⟩
  unfold phalaropelaw05_VnameJoins.f
  rw [awake5, Option.bind_some]
  by_cases h1 : (a.size : Int) > 200
  · rw [if_pos h1, phalaropelaw05_VnameJoins.j0, if_pos rfl]
  rw [if_neg h1]
  by_cases h2 : (b.size : Int) > 200
  · rw [if_pos h2, phalaropelaw05_VnameJoins.j0, if_pos rfl]
  rw [if_neg h2, may_f a (by omega), Option.bind_some]
  cases ha : nameL false (nats a) with
  | false => rw [if_neg (by decide), phalaropelaw05_VnameJoins.j0, if_pos rfl]
  | true =>
    rw [if_pos rfl, may_f b (by omega), Option.bind_some]
    cases hb : nameL false (nats b) with
    | false => rw [phalaropelaw05_VnameJoins.j0, if_pos (by decide)]
    | true =>
      have d1 : nats (⟨#[46]⟩ : ByteArray) = [46] := rfl
      have d2 : nats (⟨#[46, 46]⟩ : ByteArray) = [46, 46] := rfl
      have z1 : (⟨#[46]⟩ : ByteArray).size = 1 := rfl
      have z2 : (⟨#[46, 46]⟩ : ByteArray).size = 2 := rfl
      have s0 : (a ++ b).size = a.size + b.size := ByteArray.size_append
      have s1 : (a ++ (⟨#[46]⟩ : ByteArray)).size = a.size + 1 := by rw [ByteArray.size_append, z1]
      have s2 : (a ++ (⟨#[46, 46]⟩ : ByteArray)).size = a.size + 2 := by rw [ByteArray.size_append, z2]
      have s3 : ((a ++ (⟨#[46]⟩ : ByteArray)) ++ b).size = a.size + 1 + b.size := by rw [ByteArray.size_append, s1]
      have s4 : ((a ++ (⟨#[46, 46]⟩ : ByteArray)) ++ b).size = a.size + 2 + b.size := by rw [ByteArray.size_append, s2]
      have s5 : ((⟨#[46]⟩ : ByteArray) ++ a).size = 1 + a.size := by rw [ByteArray.size_append, z1]
      have n0 : nameL false (nats (a ++ b)) = true := by rw [nats_append, name_app _ _ _ ha]; exact name_mono _ hb
      have n1 : nameL false (nats ((a ++ (⟨#[46]⟩ : ByteArray)) ++ b)) = true := by rw [nats_append, nats_append, d1, List.append_assoc, name_app _ _ _ ha, List.singleton_append, name_46, hb]; rfl
      have n2 : nameL false (nats ((a ++ (⟨#[46, 46]⟩ : ByteArray)) ++ b)) = false := by
        rw [nats_append, nats_append, d2, List.append_assoc, name_app _ _ _ ha]
        show nameL true (46 :: 46 :: nats b) = false
        rw [name_46, name_46]
        rfl
      have n3 : nameL false (nats ((⟨#[46]⟩ : ByteArray) ++ a)) = false := by rw [nats_append, d1, List.singleton_append, name_46]; rfl
      have n4 : nameL false (nats (a ++ (⟨#[46]⟩ : ByteArray))) = false := by rw [nats_append, d1, name_app _ _ _ ha, name_46]; rfl
      have n5 : (endsS 0 (nats (a ++ (⟨#[46, 46]⟩ : ByteArray))) 0 0).1 = a.size + 1 := by
        have h0 : 0 < (nats a).length := by
          cases h : nats a with
          | nil => rw [h] at ha; cases ha
          | cons _ _ => simp
        rw [nats_append, d2, ends_app [46, 46] _ false 0 0 ha (fun h => by cases h), Nat.zero_add, ends_dot ⟨h0, rfl⟩, ends_stop word_46 (by omega) (trip_46 []) (by decide), nats_len]
      rw [phalaropelaw05_VnameJoins.j0, if_neg (by decide), if_pos rfl, if_pos (by omega), may_f _ (by omega), Option.bind_some, if_pos n0, if_pos (by omega), if_pos (by omega), may_f _ (by omega), Option.bind_some, if_pos n1, if_pos (by omega), if_pos (by omega), may_f _ (by omega), Option.bind_some, n2, if_neg (by decide), if_pos (by omega), may_f _ (by omega), Option.bind_some, n3, if_neg (by decide), may_f _ (by omega), Option.bind_some, n4, if_neg (by decide), bad_f _ (by omega), Option.bind_some, n5, wrap_id (by omega) (by omega)]
      simp
end Go.Proofs.YtmondgamackcgaaDoor.Pure
