/- The contracts of the classes of package chars (Digit, Alpha, Hex, Word). -/
import Derived.Test.YtmondgamackcgaaDoorSetF
namespace Go.Proofs.YtmondgamackcgaaDoor
open Go.RowKit

def digitS : Nat → Bool := span 48 57
def alphaS : Nat → Bool := anyOf [span 65 90, span 97 122]
def hexS : Nat → Bool := anyOf [digitS, span 65 70, span 97 102]
def wordS : Nat → Bool := anyOf [alphaS, digitS, bytesIn [95]]

theorem below_2 {w w1 : World} {v : Obj} (h : Below (w.alloc v).heap.size (w.alloc v) w1) : Below w.heap.size w w1 := below_after ((Below.refl _ _).alloc (Nat.le_refl _) _) h
/-- The block that was laid first, behind what was only added. -/
theorem first_block {w w1 : World} {v : Obj} (h : Below (w.alloc v).heap.size (w.alloc v) w1) : w1.heap[w.heap.size]? = some v := block_below (heap_alloc_new w v) h

set_option maxRecDepth 100000 in
set_option maxHeartbeats 1000000 in
theorem digit_any (w : World) : Calls Tryd.prog 33 #[] w fun e w' => e = .returned (setV digitS) ∧ Below w.heap.size w w' := by
  have c0 : ∀ w, Calls Tryd.prog 35 #[.int .u8 48, .int .u8 57] w fun e w' => e = .returned (setV (span 48 57)) ∧ Below w.heap.size w w' := fun w => range_any 48 57 (by omega) (by omega) w
  unfold setV wordsA at c0
  go_enter Tryd.func33, Tryd.ntmps33
  go_wp2_with fail
  refine (c0 _).mono ?_
  rintro e w1 ⟨rfl, hb1⟩
  have hb := hb1
  have hR := first_block hb
  have hbel := below_2 hb
  rw [← wordsA_none] at hR
  obtain ⟨d0, d1, d2, d3⟩ := cells4_below hR (Below.refl _ _)
  obtain ⟨f0, f1, f2, f3⟩ := free4_below hR (Below.refl _ _)
  have HR := Lib.hid hR
  clear hR
  go_wp2
  exact bodyPost_ret (results_c rfl _ _ _ _ _ _ _ rfl (setCells4 HR.out _) Tryd.underlying38 rfl (info25 _)) rfl ⟨rfl, below4 hbel (Nat.le_refl _) _ _ _ _⟩


set_option maxRecDepth 100000 in
set_option maxHeartbeats 1000000 in
theorem alpha_any (w : World) : Calls Tryd.prog 32 #[] w fun e w' => e = .returned (setV alphaS) ∧ Below w.heap.size w w' := by
  have c0 : ∀ w, Calls Tryd.prog 35 #[.int .u8 65, .int .u8 90] w fun e w' => e = .returned (setV (span 65 90)) ∧ Below w.heap.size w w' := fun w => range_any 65 90 (by omega) (by omega) w
  have c1 : ∀ w, Calls Tryd.prog 35 #[.int .u8 97, .int .u8 122] w fun e w' => e = .returned (setV (span 97 122)) ∧ Below w.heap.size w w' := fun w => range_any 97 122 (by omega) (by omega) w
  have cU := fun (b cap : Nat) (w : World) => union_any [span 65 90, span 97 122] b cap w (by simp)
  unfold setV wordsA at c0 c1 cU
  go_enter Tryd.func32, Tryd.ntmps32
  go_wp2_with fail
  refine (c0 _).mono ?_
  rintro e w1 ⟨rfl, hb1⟩
  go_wp2_with fail
  refine (c1 _).mono ?_
  rintro e w2 ⟨rfl, hb2⟩
  go_wp2_with fail
  refine (cU w2.heap.size 2 _ (by simp) (fun j i hj hi => rowOf_new w2 [span 65 90, span 97 122] j i hj hi)).mono ?_
  rintro e w3 ⟨rfl, hb3⟩
  have hb := (below_after (below_after hb1 hb2) (below_2 hb3))
  have hR := first_block hb
  have hbel := below_2 hb
  rw [← wordsA_none] at hR
  obtain ⟨d0, d1, d2, d3⟩ := cells4_below hR (Below.refl _ _)
  obtain ⟨f0, f1, f2, f3⟩ := free4_below hR (Below.refl _ _)
  have HR := Lib.hid hR
  clear hR
  go_wp2
  exact bodyPost_ret (results_c rfl _ _ _ _ _ _ _ rfl (setCells4 HR.out _) Tryd.underlying38 rfl (info25 _)) rfl ⟨rfl, below4 hbel (Nat.le_refl _) _ _ _ _⟩


set_option maxRecDepth 100000 in
set_option maxHeartbeats 1000000 in
theorem hex_any (w : World) : Calls Tryd.prog 25 #[] w fun e w' => e = .returned (setV hexS) ∧ Below w.heap.size w w' := by
  have c0 := digit_any
  have c1 : ∀ w, Calls Tryd.prog 35 #[.int .u8 65, .int .u8 70] w fun e w' => e = .returned (setV (span 65 70)) ∧ Below w.heap.size w w' := fun w => range_any 65 70 (by omega) (by omega) w
  have c2 : ∀ w, Calls Tryd.prog 35 #[.int .u8 97, .int .u8 102] w fun e w' => e = .returned (setV (span 97 102)) ∧ Below w.heap.size w w' := fun w => range_any 97 102 (by omega) (by omega) w
  have cU := fun (b cap : Nat) (w : World) => union_any [digitS, span 65 70, span 97 102] b cap w (by simp)
  unfold setV wordsA at c0 c1 c2 cU
  go_enter Tryd.func25, Tryd.ntmps25
  go_wp2_with fail
  refine (c0 _).mono ?_
  rintro e w1 ⟨rfl, hb1⟩
  go_wp2_with fail
  refine (c1 _).mono ?_
  rintro e w2 ⟨rfl, hb2⟩
  go_wp2_with fail
  refine (c2 _).mono ?_
  rintro e w3 ⟨rfl, hb3⟩
  go_wp2_with fail
  refine (cU w3.heap.size 3 _ (by simp) (fun j i hj hi => rowOf_new w3 [digitS, span 65 70, span 97 102] j i hj hi)).mono ?_
  rintro e w4 ⟨rfl, hb4⟩
  have hb := (below_after (below_after (below_after hb1 hb2) hb3) (below_2 hb4))
  have hR := first_block hb
  have hbel := below_2 hb
  rw [← wordsA_none] at hR
  obtain ⟨d0, d1, d2, d3⟩ := cells4_below hR (Below.refl _ _)
  obtain ⟨f0, f1, f2, f3⟩ := free4_below hR (Below.refl _ _)
  have HR := Lib.hid hR
  clear hR
  go_wp2
  exact bodyPost_ret (results_c rfl _ _ _ _ _ _ _ rfl (setCells4 HR.out _) Tryd.underlying38 rfl (info25 _)) rfl ⟨rfl, below4 hbel (Nat.le_refl _) _ _ _ _⟩


set_option maxRecDepth 100000 in
set_option maxHeartbeats 1000000 in
theorem word_any (w : World) : Calls Tryd.prog 24 #[] w fun e w' => e = .returned (setV wordS) ∧ Below w.heap.size w w' := by
  have c0 := alpha_any
  have c1 := digit_any
  have c2 : ∀ w, Calls Tryd.prog 34 #[.string (⟨#[95]⟩ : ByteArray)] w fun e w' => e = .returned (setV (bytesIn [95])) ∧ Below w.heap.size w w' := fun w => of_any (⟨#[95]⟩ : ByteArray) (by decide) w
  have cU := fun (b cap : Nat) (w : World) => union_any [alphaS, digitS, bytesIn [95]] b cap w (by simp)
  unfold setV wordsA at c0 c1 c2 cU
  go_enter Tryd.func24, Tryd.ntmps24
  go_wp2_with fail
  refine (c0 _).mono ?_
  rintro e w1 ⟨rfl, hb1⟩
  go_wp2_with fail
  refine (c1 _).mono ?_
  rintro e w2 ⟨rfl, hb2⟩
  go_wp2_with fail
  refine (c2 _).mono ?_
  rintro e w3 ⟨rfl, hb3⟩
  go_wp2_with fail
  refine (cU w3.heap.size 3 _ (by simp) (fun j i hj hi => rowOf_new w3 [alphaS, digitS, bytesIn [95]] j i hj hi)).mono ?_
  rintro e w4 ⟨rfl, hb4⟩
  have hb := (below_after (below_after (below_after hb1 hb2) hb3) (below_2 hb4))
  have hR := first_block hb
  have hbel := below_2 hb
  rw [← wordsA_none] at hR
  obtain ⟨d0, d1, d2, d3⟩ := cells4_below hR (Below.refl _ _)
  obtain ⟨f0, f1, f2, f3⟩ := free4_below hR (Below.refl _ _)
  have HR := Lib.hid hR
  clear hR
  go_wp2
  exact bodyPost_ret (results_c rfl _ _ _ _ _ _ _ rfl (setCells4 HR.out _) Tryd.underlying38 rfl (info25 _)) rfl ⟨rfl, below4 hbel (Nat.le_refl _) _ _ _ _⟩

end Go.Proofs.YtmondgamackcgaaDoor
