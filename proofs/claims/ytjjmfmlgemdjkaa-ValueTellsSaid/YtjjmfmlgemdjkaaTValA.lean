/- slices.Chunk of a list of texts, two at a time: its iterator's contract; a region that draws its order of evaluation, inside a round. -/
import Derived.RangeFuncNested
import Derived.RangeFuncBound
import Derived.RangeFuncCalls
import Derived.RangeFuncLeaves
import Derived.RangeFuncBox
import Derived.Shelf.Abstract
import Derived.Shelf.RegionOpen
import Derived.WalkKit
import Derived.OwnWalkIn
import Derived.TacticsInMore
import Derived.LoopNIn
import Derived.LoopIn
import Derived.Laws.Slices
import Derived.Test.YtjjmfmlgemdjkaaProg
import Derived.Test.YtjjmfmlgemdjkaaTWWords
import Derived.Test.YtjjmfmlgemdjkaaTWMore
import Derived.RegionIn
namespace Go.Proofs.Ytjjmfmlgemdjkaa
open Go.RowKit Go.Shelf Go.Proofs.YtjjmfmlgemdjkaaW.PrintWords Go.Proofs.YtjjmfmlgemdjkaaW.PrintMore

attribute [local go_sem] Oper.semAt_some max2_int min2_int max_two min_two

/-- The k-th pair of a list of texts that lies at ad. -/
def pairV (ad : Addr) (k : Nat) : Value := .slice (some (ad.add (2 * k))) 2 2

/-- What a round of the loop keeps for the iterator: its two boxes. -/
def KeepTwo (Bs Bn : Nat) (W W' : World) : Prop := W'.heap[Bs]? = W.heap[Bs]? ∧ W'.heap[Bn]? = W.heap[Bn]?

theorem take_fin {m k : Nat} (hk : k < m) : (List.finRange m).take (k + 1) = (List.finRange m).take k ++ [⟨k, hk⟩] := by
  rw [List.take_add_one]; simp [hk]

theorem info9_v : (Try.prog.info? 9).map (fun i => (i.zero, i.size, i.bytes)) = some (some (.string ⟨#[]⟩), 1, 16) := by kernel_rfl
theorem info76_v : (Try.prog.info? 76).map (fun i => (i.zero, i.size, i.bytes)) = some (some (.agg #[(.string ⟨#[]⟩), (.string ⟨#[]⟩)]), 2, 32) := by kernel_rfl

theorem cut_rest (ad : Addr) (m c k r : Nat) (hlt : k < m) (hc : 2 * m ≤ c) (hr : 2 * m - 2 * k = r) :
    ∀ W : World, (Instr.slice 49 (.slice (some ad) (2 * m) c) (some (.int .i64 (2 * (k : Int)))) none none).run Try.prog W = .ok (.slice (some (ad.add (2 * k))) r (c - 2 * k)) W := fun W => by
  have hel49 : Try.prog.elem 49 = 9 := by simp [Program.elem, Try.underlying49]
  have hu49 : Try.prog.underlying 49 = some (.slice (Try.prog.elem 49)) := by rw [hel49]; exact Try.underlying49
  obtain ⟨inf, hinf, _, hsz, _⟩ := info_parts info9_v
  rw [run_slice_l W 49 (some ad) (2 * m) c hu49 .i64 (2 * (k : Int)) (by omega) (by omega)]
  have e1 : (2 * (k : Int)).toNat = 2 * k := by omega
  have e2 : ¬ c = 2 * k := by omega
  simp [sizeOf, typeInfo, hel49, hinf, hsz, sliced, Result.andThen, e1, e2, hr]
theorem cut_pair (ad : Addr) (m c k : Nat) (hlt : k < m) (hc : 2 * m ≤ c) :
    ∀ W : World, (Instr.slice 49 (.slice (some ad) (2 * m) c) (some (.int .i64 (2 * (k : Int)))) (some (.int .i64 (2 * (k : Int) + 2))) (some (.int .i64 (2 * (k : Int) + 2)))).run Try.prog W = .ok (pairV ad k) W := fun W => by
  have hel49 : Try.prog.elem 49 = 9 := by simp [Program.elem, Try.underlying49]
  have hu49 : Try.prog.underlying 49 = some (.slice (Try.prog.elem 49)) := by rw [hel49]; exact Try.underlying49
  obtain ⟨inf, hinf, _, hsz, _⟩ := info_parts info9_v
  rw [run_slice_lhm W 49 (some ad) (2 * m) c hu49 .i64 .i64 .i64 (2 * (k : Int)) (2 * (k : Int) + 2) (2 * (k : Int) + 2) (by omega) (by omega) (by omega) (by omega)]
  have e1 : (2 * (k : Int)).toNat = 2 * k := by omega
  have e3 : (2 * (k : Int) + 2).toNat = 2 * k + 2 := by omega
  simp [sizeOf, typeInfo, hel49, hinf, hsz, sliced, Result.andThen, e1, e3, pairV]

set_option maxRecDepth 100000 in
set_option maxHeartbeats 2000000 in
theorem chunk1_in (n : Nat) (hn : 1 ≤ n) (l Bs Bn : Nat) (ad : Addr) (m c : Nat) (hm : m ≤ 1000000) (hc : 2 * m ≤ c) (J Jx : List (Fin m) → World → Prop)
    (hY : ∀ pre x W, J pre W → pre.length < m → YieldAt Fence.wide (n - 1) Try.prog l #[pairV ad x.1] W fun e W' =>
      (e = .returned (.bool true) ∧ J (pre ++ [x]) W' ∧ KeepTwo Bs Bn W W') ∨ (e = .returned (.bool false) ∧ Jx (pre ++ [x]) W'))
    (W : World) (hBs : W.heap[Bs]? = some (.cells #[.slice (some ad) (2 * m) c] 49 (0, 0))) (hBn : W.heap[Bn]? = some (.cells #[.int .i64 2] 3 (0, 0))) (h0 : J [] W) (hJ : AbidesFrom W.heap.size J) :
    CallsIn Fence.wide n Try.prog 81 #[.func (.yield l) #[] #[], .pointer (some ⟨Bs, 0, none⟩), .pointer (some ⟨Bn, 0, none⟩)] W fun e W' => (∃ v, e = .returned v) ∧
      ((∃ ys, ys = List.finRange m ∧ J ys W') ∨ (∃ pre : List (Fin m), True ∧ Jx pre W')) := by
  have hro : Fence.wide.round = none := rfl
  refine callsIn_of_wp Try.func81 rfl trivial ?_ hro
  simp only [Try.ntmps81, List.size_toArray, List.length_cons, List.length_nil, Nat.reduceAdd, Nat.reduceSub, Array.replicate_succ, Array.replicate_zero, List.push_toArray, List.append_toArray, List.nil_append, List.cons_append]
  gi_wp2
  gi_loopw [4] (fun i wr => ∃ k : Nat, k ≤ m ∧ i = .int .i64 (2 * (k : Int)) ∧ J ((List.finRange m).take k) wr ∧ wr.heap[Bs]? = some (.cells #[.slice (some ad) (2 * m) c] 49 (0, 0)) ∧ wr.heap[Bn]? = some (.cells #[.int .i64 2] 3 (0, 0)))
    (fun i _ => 2 * m - (intOf i).toNat)
  case atStart => exact ⟨0, Nat.zero_le _, rfl, by simpa using h0, hBs, hBn⟩
  case round =>
    obtain ⟨k, hk, rfl, hJs, hS, hN⟩ := hrel
    have hcs : wr.cell? ⟨Bs, 0, none⟩ = some (.slice (some ad) (2 * m) c) := by simp [World.cell?, hS]
    have hcn : wr.cell? ⟨Bn, 0, none⟩ = some (.int .i64 2) := by simp [World.cell?, hN]
    by_cases hlt : k < m
    · obtain ⟨w2, hw2⟩ : ∃ w2, wr.drew = w2 := ⟨_, rfl⟩
      have hJ2 : J ((List.finRange m).take k) w2 := hJ _ wr w2 none hJs (by subst hw2; exact ⟨rfl, rfl, rfl, Nat.le_refl _, fun _ _ _ => rfl⟩) (fun r e => by cases e)
      have hS2 : w2.heap[Bs]? = some (.cells #[.slice (some ad) (2 * m) c] 49 (0, 0)) := by subst hw2; exact hS
      have hN2 : w2.heap[Bn]? = some (.cells #[.int .i64 2] 3 (0, 0)) := by subst hw2; exact hN
      have hcs2 : w2.cell? ⟨Bs, 0, none⟩ = some (.slice (some ad) (2 * m) c) := by simp [World.cell?, hS2]
      have hcn2 : w2.cell? ⟨Bn, 0, none⟩ = some (.int .i64 2) := by simp [World.cell?, hN2]
      obtain ⟨r, hr⟩ : ∃ r, 2 * m - 2 * k = r := ⟨_, rfl⟩
      have hs1 := cut_rest ad m c k r hlt hc hr
      have hs2 := cut_pair ad m c k hlt hc
      have hrc : ((r : Int) < 2) = False := by simp; omega
      have hwr : IntKind.i64.wrap (2 * (k : Int) + 2) = 2 * (k : Int) + 2 := by rw [IntKind.wrap_i64]; omega
      obtain ⟨fn, tmps, assign, body, hy, hR⟩ := hY _ ⟨k, hlt⟩ w2 hJ2 (by simp; omega)
      dsimp only at hy
      gi_wp2
      gi_region
      gi_wp2
      refine hR.mono ?_
      rintro e W3 (⟨rfl, hJ3, hk3⟩ | ⟨rfl, hJx3⟩)
      · have hcn3 : W3.cell? ⟨Bn, 0, none⟩ = some (.int .i64 2) := by simp [World.cell?, hk3.2, hN2]
        gi_wp2
        go_roundw
        case rel => exact ⟨k + 1, by omega, by simp; omega, by rw [take_fin hlt]; exact hJ3, hk3.1.trans hS2, hk3.2.trans hN2⟩
        case measure => simp [intOf]; omega
      · gi_wp2
        refine bodyPost_ret (results_none rfl _ _ _) rfl ?_
        exact ⟨⟨_, rfl⟩, .inr ⟨_, trivial, hJx3⟩⟩
    · obtain rfl : k = m := by omega
      gi_wp2
      go_end0
      exact ⟨⟨_, rfl⟩, .inl ⟨_, List.take_of_length_le (by simp), hJs⟩⟩

set_option maxHeartbeats 1000000 in
theorem chunk_in (n : Nat) (ad : Option Addr) (len c : Nat) (w : World) :
    CallsIn Fence.wide n Try.prog 71 #[.slice ad len c, .int .i64 2] w fun e w' => e = .returned (.func (.func 81) #[] #[.pointer (some ⟨w.heap.size, 0, none⟩), .pointer (some ⟨w.heap.size + 1, 0, none⟩)]) ∧ w' = (w.alloc (.cells #[.slice ad len c] 49)).alloc (.cells #[.int .i64 2] 3) := by
  have hro : Fence.wide.round = none := rfl
  refine callsIn_of_wp Try.func71 rfl trivial ?_ hro
  simp only [Try.ntmps71, List.size_toArray, List.length_cons, List.length_nil, Nat.reduceAdd, Nat.reduceSub, Array.replicate_succ, Array.replicate_zero, List.push_toArray, List.append_toArray, List.nil_append, List.cons_append]
  gi_wp2
  go_ret
  exact ⟨by simp, rfl⟩

/-- **slices.Chunk(l, 2)**: the pairs 0, .., m - 1 of a list of 2 * m texts, in turn. -/
theorem chunk_stops (n : Nat) (hn : 1 ≤ n) (Bs Bn : Nat) (ad : Addr) (m c : Nat) (hm : m ≤ 1000000) (hc : 2 * m ≤ c) (w : World) (hBs : w.heap[Bs]? = some (.cells #[.slice (some ad) (2 * m) c] 49 (0, 0))) (hBn : w.heap[Bn]? = some (.cells #[.int .i64 2] 3 (0, 0))) :
    SeqStopsK Fence.wide n Try.prog 81 #[.pointer (some ⟨Bs, 0, none⟩), .pointer (some ⟨Bn, 0, none⟩)] (fun x : Fin m => #[pairV ad x.1]) (KeepTwo Bs Bn) (fun ys => ys = List.finRange m) (fun _ => True) m w := fun l J Jx W hW hJ _ hY h0 => by
  have h1 := (hW.block Bs (Array.getElem?_eq_some_iff.1 hBs).1).trans hBs
  have h2 := (hW.block Bn (Array.getElem?_eq_some_iff.1 hBn).1).trans hBn
  exact chunk1_in n hn l Bs Bn ad m c hm hc J Jx hY W h1 h2 h0 hJ

end Go.Proofs.Ytjjmfmlgemdjkaa

