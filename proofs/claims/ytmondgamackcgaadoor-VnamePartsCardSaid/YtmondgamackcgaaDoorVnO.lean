/- Plain: what the printed functions of vname tell. -/
import Derived.Test.YtmondgamackcgaaDoorPVnx1
import Derived.Test.YtmondgamackcgaaDoorVnP
namespace Go.Proofs.YtmondgamackcgaaDoor.Pure
open Go.RowKit Go.Proofs.YtmondgamackcgaaDoor.PVn Go.Proofs.YtmondgamackcgaaDoorW.PrintWords Go.Proofs.YtmondgamackcgaaDoorW.PrintLast Go.Proofs.YtmondgamackcgaaDoorW.PrintMore

theorem wrap_id {x : Int} (h0 : -9223372036854775808 ≤ x) (h1 : x < 9223372036854775808) : wrap64 x = x := by unfold wrap64; omega
theorem awake5 : phalaropelaw05_awake.f = some true := by decide +kernel
theorem end_f (s : ByteArray) (h : s.size ≤ 1000000) : vname_End.f s = some (((endsS 0 (nats s) 0 0).2 : Nat) : Int) := by unfold vname_End.f vname_ends.f; rw [if_pos h]; rfl
theorem bad_f (s : ByteArray) (h : s.size ≤ 1000000) : vname_Bad.f s = some (((endsS 0 (nats s) 0 0).1 : Nat) : Int) := by unfold vname_Bad.f vname_ends.f; rw [if_pos h]; rfl
theorem may_f (s : ByteArray) (h : s.size ≤ 1000000) : vname_May.f s = some (nameL false (nats s)) := by
  unfold vname_May.f
  by_cases h0 : nats s = []
  · rw [if_pos ((toList_is s []).2 h0), h0]
    rfl
  · rw [if_neg (fun e => h0 ((toList_is s []).1 e)), end_f s h, Option.bind_some]
    refine congrArg some ?_
    rw [Bool.eq_iff_iff, name_ends, beq_iff_eq, ← nats_len]
    exact ⟨fun e => ⟨h0, by omega⟩, fun e => by rw [e.2]⟩
theorem split_f (s : ByteArray) (h : s.size ≤ 1000000) : vname_Split.f s = some (if nameL false (nats s) = true then Lib.splitB dot 0 (Lib.countB s dot) s else []) := by
  unfold vname_Split.f
  rw [may_f s h, Option.bind_some]
  by_cases hn : nameL false (nats s) = true
  · rw [if_pos hn, if_pos hn]
    unfold strings_Split.f
    rw [if_pos ⟨h, rfl⟩]
    rfl
  · rw [if_neg hn, if_neg hn]
end Go.Proofs.YtmondgamackcgaaDoor.Pure
