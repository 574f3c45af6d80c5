/- The contracts of the closures that pct hands to each. -/
import Derived.Test.YtmondgamackcgaaPctA
import Derived.Lib.AppendStr
import Derived.RangeFuncBox
import Derived.Deep.AppendLies
import Derived.Deep.RegionLaw
namespace Go.Proofs.Ytmondgamackcgaa
open Go.RowKit

theorem byteV_nat (c : Nat) (h : c < 256) : Value.int .u8 (c : Int) = byteV (UInt8.ofNat c) := by
  unfold byteV
  rw [nat8 c h]

set_option maxHeartbeats 1000000 in
theorem put1_any (c : Nat) (hcc : c < 256) (v : Value) (l : List UInt8) (B base : Nat) (hl : l.length ≤ 10000000) (w : World) (hB : w.heap[B]? = some (.cells #[v] 53 (0, 0))) (hown : w.ownsRow base 5 1 v l.length (l.map byteV)) (hBb : B < base) (hbase : base ≤ w.heap.size) :
    Calls Try.prog 58 #[.int .u8 c, .pointer (some ⟨B, 0, none⟩)] w fun e w' => e = .returned (.tuple #[]) ∧ (∃ v', w'.heap[B]? = some (.cells #[v'] 53 (0, 0)) ∧ w'.ownsRow base 5 1 v' (l ++ [UInt8.ofNat c]).length ((l ++ [UInt8.ofNat c]).map byteV)) ∧ Below B w w' ∧ w.heap.size ≤ w'.heap.size ∧ ∀ k, k < base → k ≠ B → w'.heap[k]? = w.heap[k]? := by
  obtain ⟨i0, hi, hz0, hz1, hz2⟩ := info_parts infoByte
  have HV := Lib.hid (byteV_nat c hcc)
  have hc : w.cell? ⟨B, 0, none⟩ = some v := cell_of hB 0
  have HB := Lib.hid hB
  clear hB
  go_enter Try.func58, Try.ntmps58
  go_wp2_with (at_builtin; refine wpList_append_own _ rfl _ _ 53 rfl base 5 i0 (.int .u8 0) 1 1 Try.underlying53 hi hz0 hz1 hz2 rfl (by decide) _ _ _ rfl (hown.alloc _) ⟨w.heap.size, 0, none⟩ 1 1 [.int .u8 c] rfl rfl (cell_one _ _ _) (by simp [Value.oneCell']) (by unfold maxLen; omega) (by omega) (by simp; omega) ?_; intro v' w1 hown' hgrow _; obtain ⟨g', cap', rfl⟩ := ownsRow_succ hown'; have hbb : Below base w w1 := below_append hbase (Below.refl _ _) hgrow hown (Nat.le_refl _); have hB1 := (hbb.block B hBb).trans HB.out; have hf1 := free_of hB1 0; have hc1 : w1.cell? ⟨B, 0, none⟩ = some v := cell_of hB1 0)
  go_end0
  refine ⟨rfl, ⟨_, (block_setCell hB1 0 _).trans rfl, ?_⟩, (hbb.mono (Nat.le_of_lt hBb)).setCell (p := ⟨B, 0, none⟩) (Nat.le_refl _) _, ?_, ?_⟩
  · rw [List.map_append, List.length_append, List.map_singleton, ← HV.out]
    exact ownsRow_setCell_below hown' hBb _
  · simp only [World.setCell, Array.size_modify]; exact hbb.size
  · intro k hk hkB
    exact (Below.heap_setCell _ _ _ _ (by show k ≠ B; exact hkB)).trans (hbb.block k hk)
set_option maxHeartbeats 1000000 in
theorem put2_any (c : Nat) (hcc : c < 256) (v : Value) (l : List UInt8) (B base : Nat) (hl : l.length ≤ 10000000) (w : World) (hB : w.heap[B]? = some (.cells #[v] 53 (0, 0))) (hown : w.ownsRow base 5 1 v l.length (l.map byteV)) (hBb : B < base) (hbase : base ≤ w.heap.size) :
    Calls Try.prog 64 #[.int .u8 c, .pointer (some ⟨B, 0, none⟩)] w fun e w' => e = .returned (.tuple #[]) ∧ (∃ v', w'.heap[B]? = some (.cells #[v'] 53 (0, 0)) ∧ w'.ownsRow base 5 1 v' (l ++ [UInt8.ofNat c]).length ((l ++ [UInt8.ofNat c]).map byteV)) ∧ Below B w w' ∧ w.heap.size ≤ w'.heap.size ∧ ∀ k, k < base → k ≠ B → w'.heap[k]? = w.heap[k]? := by
  obtain ⟨i0, hi, hz0, hz1, hz2⟩ := info_parts infoByte
  have HV := Lib.hid (byteV_nat c hcc)
  have hc : w.cell? ⟨B, 0, none⟩ = some v := cell_of hB 0
  have HB := Lib.hid hB
  clear hB
  go_enter Try.func64, Try.ntmps64
  go_wp2_with (at_builtin; refine wpList_append_own _ rfl _ _ 53 rfl base 5 i0 (.int .u8 0) 1 1 Try.underlying53 hi hz0 hz1 hz2 rfl (by decide) _ _ _ rfl (hown.alloc _) ⟨w.heap.size, 0, none⟩ 1 1 [.int .u8 c] rfl rfl (cell_one _ _ _) (by simp [Value.oneCell']) (by unfold maxLen; omega) (by omega) (by simp; omega) ?_; intro v' w1 hown' hgrow _; obtain ⟨g', cap', rfl⟩ := ownsRow_succ hown'; have hbb : Below base w w1 := below_append hbase (Below.refl _ _) hgrow hown (Nat.le_refl _); have hB1 := (hbb.block B hBb).trans HB.out; have hf1 := free_of hB1 0; have hc1 : w1.cell? ⟨B, 0, none⟩ = some v := cell_of hB1 0)
  go_end0
  refine ⟨rfl, ⟨_, (block_setCell hB1 0 _).trans rfl, ?_⟩, (hbb.mono (Nat.le_of_lt hBb)).setCell (p := ⟨B, 0, none⟩) (Nat.le_refl _) _, ?_, ?_⟩
  · rw [List.map_append, List.length_append, List.map_singleton, ← HV.out]
    exact ownsRow_setCell_below hown' hBb _
  · simp only [World.setCell, Array.size_modify]; exact hbb.size
  · intro k hk hkB
    exact (Below.heap_setCell _ _ _ _ (by show k ≠ B; exact hkB)).trans (hbb.block k hk)
/-- The other bytes: a percent sign is none of them. -/
theorem put3_any (c : Nat) (hcc : c < 256) (g : Bool) (v : Value) (l : List UInt8) (B base : Nat) (hl : l.length ≤ 10000000) (w : World) (hB : w.heap[B]? = some (.cells #[v] 53 (0, 0))) (hG : w.heap[B + 1]? = some (.cells #[.bool g] 4 (0, 0))) (hown : w.ownsRow base 5 1 v l.length (l.map byteV)) (hBb : B + 1 < base) (hbase : base ≤ w.heap.size) :
    Calls Try.prog 59 #[.int .u8 c, .pointer (some ⟨B, 0, none⟩), .pointer (some ⟨B + 1, 0, none⟩)] w fun e w' => e = .returned (.tuple #[]) ∧ (∃ v', w'.heap[B]? = some (.cells #[v'] 53 (0, 0)) ∧ w'.ownsRow base 5 1 v' (l ++ [UInt8.ofNat c]).length ((l ++ [UInt8.ofNat c]).map byteV)) ∧ w'.heap[B + 1]? = some (.cells #[.bool (g && decide (c ≠ 37))] 4 (0, 0)) ∧ Below B w w' ∧ w.heap.size ≤ w'.heap.size ∧ ∀ k, k < base → k ≠ B → k ≠ B + 1 → w'.heap[k]? = w.heap[k]? := by
  obtain ⟨i0, hi, hz0, hz1, hz2⟩ := info_parts infoByte
  have HV := Lib.hid (byteV_nat c hcc)
  have hne : ((c : Int) != 37) = decide (c ≠ 37) := by by_cases h : c = 37 <;> simp [h]; omega
  have hc : w.cell? ⟨B, 0, none⟩ = some v := cell_of hB 0
  have HB := Lib.hid hB
  have HG := Lib.hid hG
  clear hB hG
  generalize hd : decide (c ≠ 37) = d at hne ⊢
  clear hd
  cases g
  all_goals
    go_enter Try.func59, Try.ntmps59
    go_wp2_with (at_builtin; refine wpList_append_own _ rfl _ _ 53 rfl base 5 i0 (.int .u8 0) 1 1 Try.underlying53 hi hz0 hz1 hz2 rfl (by decide) _ _ _ rfl (hown.alloc _) ⟨w.heap.size, 0, none⟩ 1 1 [.int .u8 c] rfl rfl (cell_one _ _ _) (by simp [Value.oneCell']) (by unfold maxLen; omega) (by omega) (by simp; omega) ?_; intro v' w1 hown' hgrow _; obtain ⟨g', cap', rfl⟩ := ownsRow_succ hown'; have hbb : Below base w w1 := below_append hbase (Below.refl _ _) hgrow hown (Nat.le_refl _); have hB1 := (hbb.block B (by omega)).trans HB.out; have hG1 := (hbb.block (B + 1) hBb).trans HG.out; have hf1 := free_of hB1 0; have hc1 : w1.cell? ⟨B, 0, none⟩ = some v := cell_of hB1 0; have HB1 := Lib.hid hB1; have hG2 := (Below.heap_setCell w1 ⟨B, 0, none⟩ (Value.slice (some ⟨g', 0, none⟩) (l.length + 1) cap') (B + 1) (by show B + 1 ≠ B; omega)).trans hG1; have hc2 := cell_of hG2 0; have hf2 := free_of hG2 0; have HG2 := Lib.hid hG2; clear hB1 hG1 hG2)
    go_end0
    refine ⟨rfl, ⟨_, (Below.heap_setCell _ _ _ _ (by show B ≠ B + 1; omega)).trans ((block_setCell HB1.out 0 _).trans rfl), ?_⟩, (block_setCell HG2.out 0 _).trans rfl, ((hbb.mono (show B ≤ base by omega)).setCell (p := ⟨B, 0, none⟩) (Nat.le_refl _) _).setCell (p := ⟨B + 1, 0, none⟩) (Nat.le_succ B) _, ?_, ?_⟩
    · rw [List.map_append, List.length_append, List.map_singleton, ← HV.out]
      exact ownsRow_setCell_below (ownsRow_setCell_below hown' (show B < base by omega) _) hBb _
    · simp only [World.setCell, Array.size_modify]; exact hbb.size
    · intro k hk hkB hkG
      exact (Below.heap_setCell _ _ _ _ (by show k ≠ B + 1; exact hkG)).trans ((Below.heap_setCell _ _ _ _ (by show k ≠ B; exact hkB)).trans (hbb.block k hk))

/-- append of a text to an owned row of bytes, as one step of a region that draws. -/
theorem step_append_string {P : Program} {ops : Array Oper} {o : Oper} {a : Act} {w : World} {K : Act → World → Prop} {Q : Exit → Act → World → Prop} {E : Prop}
    (hg : o.guard = none) (s x : Operand) (t u : TypeId) (hop : o.op = Op.call { callee := Callee.builtin Builtin.append, args := #[s, x], argTypes := #[t, u] })
    (base : Nat) (e : TypeId) (i : TypeInfo) (ht : P.underlying t = some (.slice e)) (hu : P.underlying u = some .string) (hi : P.info? e = some i) (hz : i.zero = some (.int .u8 0)) (hsize : i.size = 1) (hby : i.bytes = 1)
    (v : Value) (n : Nat) (xs : List Value) (hs : a.eval s = v) (hown : w.ownsRow base e 1 v n xs) (str : ByteArray) (hx : a.eval x = .string str)
    (h63 : n + str.size ≤ maxLen) (hbytes : n + str.size ≤ 140737488355328) (hbase : base ≤ w.heap.size)
    (hK : ∀ v' w', w'.ownsRow base e 1 v' (n + str.size) (xs ++ Lib.strCells str) → w.grownBy w' v.ownBlock → K (a.put o.dst v') w') :
    if Region.wanted o (yielded ops a.tmps) = true then Oper.wp P o a w K Q else E := by
  have hw : Region.wanted o (yielded ops a.tmps) = true := by simp [Region.wanted, hg]
  rw [if_pos hw]
  obtain ⟨v', w', hrun, r1, r2, _⟩ := Lib.run_append_own_string (P := P) w base t u o.type e i ht hu hi hz hsize hby v n xs hown str h63 hbytes hbase
  unfold Oper.wp
  simp [execOp, hop, resolve, invoke, builtin, hs, hx, hrun, Result.andThen]
  exact hK v' w' r1 r2
set_option maxHeartbeats 2000000 in
theorem put4_any (c : Nat) (hcc : c < 256) (v : Value) (l : List UInt8) (B base : Nat) (hl : l.length ≤ 10000000) (w : World) (hB : w.heap[B]? = some (.cells #[v] 53 (0, 0))) (hown : w.ownsRow base 5 1 v l.length (l.map byteV)) (hBb : B < base) (hbase : base ≤ w.heap.size) :
    Calls Try.prog 63 #[.int .u8 c, .pointer (some ⟨B, 0, none⟩)] w fun e w' => e = .returned (.tuple #[]) ∧ (∃ v', w'.heap[B]? = some (.cells #[v'] 53 (0, 0)) ∧ w'.ownsRow base 5 1 v' (l ++ bytesU (oneN c)).length ((l ++ bytesU (oneN c)).map byteV)) ∧ Below B w w' ∧ w.heap.size ≤ w'.heap.size ∧ ∀ k, k < base → k ≠ B → w'.heap[k]? = w.heap[k]? := by
  obtain ⟨i0, hi, hz0, hz1, hz2⟩ := info_parts infoByte
  have cO := one_in c hcc
  have hone : (bytesN (oneN c)).size = 3 := rfl
  have HS := Lib.hid (show Lib.strCells (bytesN (oneN c)) = (bytesU (oneN c)).map byteV from rfl)
  have hc : w.drew.cell? ⟨B, 0, none⟩ = some v := cell_of (w := w.drew) hB 0
  have HB := Lib.hid hB
  have HO := Lib.hid hown
  clear hB hown
  generalize bytesN (oneN c) = t at cO hone HS
  go_enter Try.func63, Try.ntmps63
  go_wp2_with fail
  go_region_law (first | (refine step_append_string rfl _ _ 53 9 rfl base 5 i0 Try.underlying53 Try.underlying9 hi hz0 hz1 hz2 v l.length (l.map byteV) rfl (own_below HO.out hb1') t rfl (by unfold maxLen; omega) (by omega) (by have := hb1'.size; omega) ?_; intro v' w2 hown' hgrow; obtain ⟨ao, n', cap, rfl⟩ : (∃ ao n' cap, v' = Value.slice ao n' cap) := by { rcases hown'.2 with ⟨hv, _⟩ | ⟨g, cap, cur, hv, _⟩ <;> exact ⟨_, _, _, hv⟩ }; have hbb : Below base w w2 := ((hb1'.mono hbase).grown hgrow (by have := hb1'.size; omega) (fun k e => ((own_below HO.out hb1').lt k e).1)); have hB2 := (hbb.block B hBb).trans HB.out; have hf2 := free_of hB2 0; have hc2 : w2.cell? ⟨B, 0, none⟩ = some v := cell_of hB2 0; have HB2 := Lib.hid hB2) | (go_simp; go_at_call 44; refine (cO _).mono ?_; rintro e w1 ⟨rfl, hb1⟩; have hb1' : Below w.heap.size w w1 := (Below.refl w.heap.size w).drew.trans hb1; have hc1 : w1.cell? ⟨B, 0, none⟩ = some v := cell_of (block_below HB.out hb1') 0))
  all_goals
    go_wp2
    go_end0
    refine ⟨rfl, ⟨_, (block_setCell HB2.out 0 _).trans rfl, ?_⟩, (hbb.mono (Nat.le_of_lt hBb)).setCell (p := ⟨B, 0, none⟩) (Nat.le_refl _) _, ?_, ?_⟩
    · rw [List.map_append, List.length_append, show (bytesU (oneN c)).length = t.size from hone.symm, ← HS.out]
      exact ownsRow_setCell_below hown' hBb _
    · simp only [World.setCell, Array.size_modify]; exact hbb.size
    · intro k hk hkB
      exact (Below.heap_setCell _ _ _ _ (by show k ≠ B; exact hkB)).trans (hbb.block k hk)
end Go.Proofs.Ytmondgamackcgaa
