/- The walk of the law CharsSets. -/
import Derived.Test.YtmondgamackcgaaAwake2
namespace Go.Proofs.Ytmondgamackcgaa
open Go.RowKit

/-- The words of a set that lies in a block, in every later world. -/
theorem cells4_ever {w : World} {B : Nat} {t : TypeId} {f : Nat → Bool} (h : w.heap[B]? = some (.cells (wordsA f) t (0, 0))) :
    (∀ w', Below w.heap.size w w' → w'.cell? ⟨B, 0, none⟩ = some (.int .u64 (wd f 0 : Nat))) ∧ (∀ w', Below w.heap.size w w' → w'.cell? ⟨B, 1, none⟩ = some (.int .u64 (wd f 1 : Nat))) ∧
    (∀ w', Below w.heap.size w w' → w'.cell? ⟨B, 2, none⟩ = some (.int .u64 (wd f 2 : Nat))) ∧ (∀ w', Below w.heap.size w w' → w'.cell? ⟨B, 3, none⟩ = some (.int .u64 (wd f 3 : Nat))) :=
  ⟨fun _ hb => cells4 (block_below h hb) 0 (by omega), fun _ hb => cells4 (block_below h hb) 1 (by omega), fun _ hb => cells4 (block_below h hb) 2 (by omega), fun _ hb => cells4 (block_below h hb) 3 (by omega)⟩
theorem union_zero (w : World) : Calls Try.prog 24 #[.slice none 0 0] w fun e w' => e = .returned (.agg #[.int .u64 0, .int .u64 0, .int .u64 0, .int .u64 0]) ∧ Below w.heap.size w w' := by
  have h := union_none w
  unfold setV at h
  rw [wordsA_none] at h
  exact h

set_option maxRecDepth 100000 in
set_option maxHeartbeats 2000000 in
theorem walkCharsSets (f g : Nat → Bool) (c : Nat) (hc : c < 256) (w : World) :
    Calls Try.prog 5 #[setV f, setV g, .int .u8 c] w fun e w' => e = .returned (.bool true) ∧ Below w.heap.size w w' := by
  have cA := awake2_any
  have cF := refHas_any f c hc
  have cG := refHas_any g c hc
  have cU := fun (b cap : Nat) (w : World) => union_any [f, g] b cap w (by simp)
  have cHU := has_any (anyOf [f, g]) c hc
  have cM := minus_any f g
  have cHM := has_any (fun n => f n && !g n) c hc
  have cN := not_any f
  have cHN := has_any (fun n => !f n) c hc
  have cZ := union_zero
  rw [show anyOf [f, g] c = (f c || g c) by unfold anyOf; simp] at cHU
  have q := eqWords 0 0 0 0 0 0 0 0
  unfold setV wordsA at cF cG cU cHU cM cHM cN cHN ⊢
  generalize f c = x at cF cHU cHM cHN
  generalize g c = y at cG cHU cHM
  cases x <;> cases y
  all_goals
    go_enter Try.func5, Try.ntmps5
    go_wp2_with fail
    refine (cA _).mono ?_
    rintro e w1 ⟨rfl, hb1⟩
    have hG := first_block hb1
    rw [World.size_alloc] at hG
    have hF := block_below (heap_alloc_new w (.cells #[.int .u64 (wd f 0 : Nat), .int .u64 (wd f 1 : Nat), .int .u64 (wd f 2 : Nat), .int .u64 (wd f 3 : Nat)] 23)) (below_2 hb1)
    obtain ⟨f0, f1, f2, f3⟩ := cells4_ever (f := f) hF
    obtain ⟨g0, g1, g2, g3⟩ := cells4_ever (f := g) hG
    have h0 : Below w.heap.size w w1 := below_2 (below_2 hb1)
    have hr := Below.refl w1.heap.size w1
    have hs := hr.alloc (Nat.le_refl _) (.cells #[.int .u64 (wd f 0 : Nat), .int .u64 (wd f 1 : Nat), .int .u64 (wd f 2 : Nat), .int .u64 (wd f 3 : Nat)] 25)
    have ht := hs.alloc hs.size (.cells #[.int .u64 (wd g 0 : Nat), .int .u64 (wd g 1 : Nat), .int .u64 (wd g 2 : Nat), .int .u64 (wd g 3 : Nat)] 25)
    clear hF hG hb1
    go_wp2_with fail
    refine (cF _).mono ?_
    rintro e w2 ⟨rfl, hb2⟩
    have h2 := below_after ht hb2
    have hY := first_block hb2
    rw [World.size_alloc] at hY
    have hX := block_below (heap_alloc_new w1 (.cells #[.int .u64 (wd f 0 : Nat), .int .u64 (wd f 1 : Nat), .int .u64 (wd f 2 : Nat), .int .u64 (wd f 3 : Nat)] 25)) (below_2 hb2)
    obtain ⟨x0, x1, x2, x3⟩ := cells4_ever (f := f) hX
    obtain ⟨y0, y1, y2, y3⟩ := cells4_ever (f := g) hY
    have hr2 := Below.refl w2.heap.size w2
    clear hX hY hb2
    go_wp2_with fail
    refine (cG _).mono ?_
    rintro e w3 ⟨rfl, hb3⟩
    go_wp2_with fail
    refine (cU w3.heap.size 2 _ (by simp) (fun j i hj hi => rowOf_new w3 [f, g] j i hj hi)).mono ?_
    rintro e w4 ⟨rfl, hb4⟩
    have h4 := below_after hb3 (below_2 hb4)
    go_wp2_with fail
    refine (cHU _).mono ?_
    rintro e w5 ⟨rfl, hb5⟩
    have h5 := below_after h4 hb5
    go_wp2_with fail
    refine (cM _).mono ?_
    rintro e w6 ⟨rfl, hb6⟩
    have h6 := below_after h5 hb6
    go_wp2_with fail
    refine (cHM _).mono ?_
    rintro e w7 ⟨rfl, hb7⟩
    have h7 := below_after h6 hb7
    go_wp2_with fail
    refine (cN _).mono ?_
    rintro e w8 ⟨rfl, hb8⟩
    have h8 := below_after h7 hb8
    go_wp2_with fail
    refine (cHN _).mono ?_
    rintro e w9 ⟨rfl, hb9⟩
    have h9 := below_after h8 hb9
    go_wp2_with fail
    refine (cZ _).mono ?_
    rintro e w10 ⟨rfl, hb10⟩
    go_wp2
    go_ret
    exact ⟨rfl, below_after h0 (below_after h2 (below_after h9 hb10))⟩
end Go.Proofs.Ytmondgamackcgaa
