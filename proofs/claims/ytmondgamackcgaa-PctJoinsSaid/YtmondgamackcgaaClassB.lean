/- The contracts of the classes of package chars (Unreserved, Reserved, Literal). -/
import Derived.Test.YtmondgamackcgaaClassA
namespace Go.Proofs.Ytmondgamackcgaa
open Go.RowKit

def unreservedS : Nat → Bool := anyOf [alphaS, digitS, bytesIn [45, 46, 95, 126]]
def reservedS : Nat → Bool := bytesIn [58, 47, 63, 35, 91, 93, 64, 33, 36, 38, 39, 40, 41, 42, 43, 44, 59, 61]
def literalS : Nat → Bool := fun n => (span 33 126) n && !(bytesIn [34, 39, 37, 60, 62, 92, 94, 96, 123, 124, 125]) n

set_option maxRecDepth 100000 in
set_option maxHeartbeats 1000000 in
theorem unreserved_any (w : World) : Calls Try.prog 35 #[] w fun e w' => e = .returned (setV unreservedS) ∧ Below w.heap.size w w' := by
  have c0 := alpha_any
  have c1 := digit_any
  have c2 : ∀ w, Calls Try.prog 21 #[.string (⟨#[45, 46, 95, 126]⟩ : ByteArray)] w fun e w' => e = .returned (setV (bytesIn [45, 46, 95, 126])) ∧ Below w.heap.size w w' := fun w => of_any (⟨#[45, 46, 95, 126]⟩ : ByteArray) (by decide) w
  have cU := fun (b cap : Nat) (w : World) => union_any [alphaS, digitS, bytesIn [45, 46, 95, 126]] b cap w (by simp)
  unfold setV wordsA at c0 c1 c2 cU
  go_enter Try.func35, Try.ntmps35
  go_wp2_with fail
  refine (c0 _).mono ?_
  rintro e w1 ⟨rfl, hb1⟩
  go_wp2_with fail
  refine (c1 _).mono ?_
  rintro e w2 ⟨rfl, hb2⟩
  go_wp2_with fail
  refine (c2 _).mono ?_
  rintro e w3 ⟨rfl, hb3⟩
  go_wp2_with fail
  refine (cU w3.heap.size 3 _ (by simp) (fun j i hj hi => rowOf_new w3 [alphaS, digitS, bytesIn [45, 46, 95, 126]] j i hj hi)).mono ?_
  rintro e w4 ⟨rfl, hb4⟩
  have hb := (below_after (below_after (below_after hb1 hb2) hb3) (below_2 hb4))
  have hR := first_block hb
  have hbel := below_2 hb
  rw [← wordsA_none] at hR
  obtain ⟨d0, d1, d2, d3⟩ := cells4_below hR (Below.refl _ _)
  obtain ⟨f0, f1, f2, f3⟩ := free4_below hR (Below.refl _ _)
  have HR := Lib.hid hR
  clear hR
  go_wp2
  exact bodyPost_ret (results_c rfl _ _ _ _ _ _ _ rfl (setCells4 HR.out _) Try.underlying25 rfl (info25 _)) rfl ⟨rfl, below4 hbel (Nat.le_refl _) _ _ _ _⟩


set_option maxRecDepth 100000 in
set_option maxHeartbeats 1000000 in
theorem reserved_any (w : World) : Calls Try.prog 37 #[] w fun e w' => e = .returned (setV reservedS) ∧ Below w.heap.size w w' := by
  have c0 : ∀ w, Calls Try.prog 21 #[.string (⟨#[58, 47, 63, 35, 91, 93, 64, 33, 36, 38, 39, 40, 41, 42, 43, 44, 59, 61]⟩ : ByteArray)] w fun e w' => e = .returned (setV (bytesIn [58, 47, 63, 35, 91, 93, 64, 33, 36, 38, 39, 40, 41, 42, 43, 44, 59, 61])) ∧ Below w.heap.size w w' := fun w => of_any (⟨#[58, 47, 63, 35, 91, 93, 64, 33, 36, 38, 39, 40, 41, 42, 43, 44, 59, 61]⟩ : ByteArray) (by decide) w
  unfold setV wordsA at c0
  go_enter Try.func37, Try.ntmps37
  go_wp2_with fail
  refine (c0 _).mono ?_
  rintro e w1 ⟨rfl, hb1⟩
  have hb := hb1
  have hR := first_block hb
  have hbel := below_2 hb
  rw [← wordsA_none] at hR
  obtain ⟨d0, d1, d2, d3⟩ := cells4_below hR (Below.refl _ _)
  obtain ⟨f0, f1, f2, f3⟩ := free4_below hR (Below.refl _ _)
  have HR := Lib.hid hR
  clear hR
  go_wp2
  exact bodyPost_ret (results_c rfl _ _ _ _ _ _ _ rfl (setCells4 HR.out _) Try.underlying25 rfl (info25 _)) rfl ⟨rfl, below4 hbel (Nat.le_refl _) _ _ _ _⟩


set_option maxRecDepth 100000 in
set_option maxHeartbeats 1000000 in
theorem literal_any (w : World) : Calls Try.prog 39 #[] w fun e w' => e = .returned (setV literalS) ∧ Below w.heap.size w w' := by
  have c0 : ∀ w, Calls Try.prog 23 #[.int .u8 33, .int .u8 126] w fun e w' => e = .returned (setV (span 33 126)) ∧ Below w.heap.size w w' := fun w => range_any 33 126 (by omega) (by omega) w
  have c1 : ∀ w, Calls Try.prog 21 #[.string (⟨#[34, 39, 37, 60, 62, 92, 94, 96, 123, 124, 125]⟩ : ByteArray)] w fun e w' => e = .returned (setV (bytesIn [34, 39, 37, 60, 62, 92, 94, 96, 123, 124, 125])) ∧ Below w.heap.size w w' := fun w => of_any (⟨#[34, 39, 37, 60, 62, 92, 94, 96, 123, 124, 125]⟩ : ByteArray) (by decide) w
  have cU : ∀ w, Calls Try.prog 25 #[setV (span 33 126), setV (bytesIn [34, 39, 37, 60, 62, 92, 94, 96, 123, 124, 125])] w fun e w' => e = .returned (setV literalS) ∧ Below w.heap.size w w' := fun w => minus_any _ _ w
  unfold setV wordsA at c0 c1 cU
  go_enter Try.func39, Try.ntmps39
  go_wp2_with fail
  refine (c0 _).mono ?_
  rintro e w1 ⟨rfl, hb1⟩
  go_wp2_with fail
  refine (c1 _).mono ?_
  rintro e w2 ⟨rfl, hb2⟩
  go_wp2_with fail
  refine (cU _).mono ?_
  rintro e w3 ⟨rfl, hb3⟩
  have hb := (below_after (below_after hb1 hb2) hb3)
  have hR := first_block hb
  have hbel := below_2 hb
  rw [← wordsA_none] at hR
  obtain ⟨d0, d1, d2, d3⟩ := cells4_below hR (Below.refl _ _)
  obtain ⟨f0, f1, f2, f3⟩ := free4_below hR (Below.refl _ _)
  have HR := Lib.hid hR
  clear hR
  go_wp2
  exact bodyPost_ret (results_c rfl _ _ _ _ _ _ _ rfl (setCells4 HR.out _) Try.underlying25 rfl (info25 _)) rfl ⟨rfl, below4 hbel (Nat.le_refl _) _ _ _ _⟩

end Go.Proofs.Ytmondgamackcgaa
