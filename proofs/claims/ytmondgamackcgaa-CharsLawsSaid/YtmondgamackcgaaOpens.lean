/- Arguments that are arrays, as the rows read them: a set of bytes, a pair of bytes; a byte as a natural number. -/
import Derived.Test.YtmondgamackcgaaSetA
import Derived.ProofKit
import Derived.OpenShut
import Derived.Laws.IdiomArrays
import Derived.Lib.SmallJoins
namespace Go.Proofs.Ytmondgamackcgaa
open Go.ChangeShapes Go.WideShapes Go.ChangeAt Go.RowKit

theorem byte_nat {a : Int} (h : (Lit.int .u8 a).wf = true) : ∃ c : Nat, c < 256 ∧ a = (c : Int) := by
  have hmin : IntKind.u8.min = 0 := rfl
  have hmax : IntKind.u8.max = 255 := rfl
  simp only [Lit.wf, Bool.and_eq_true, decide_eq_true_eq] at h
  obtain ⟨c, rfl⟩ := Int.eq_ofNat_of_zero_le (a := a) (by omega)
  exact ⟨c, by omega, rfl⟩
theorem word_range {a : Int} (h : (Lit.int .u64 a).wf = true) : 0 ≤ a ∧ a ≤ 18446744073709551615 := by
  have hmin : IntKind.u64.min = 0 := rfl
  have hmax : IntKind.u64.max = 18446744073709551615 := rfl
  simp only [Lit.wf, Bool.and_eq_true, decide_eq_true_eq] at h
  omega

theorem cells4U : Try.prog.cellsOf 23 = 4 := by kernel_rfl
theorem cells2B : Try.prog.cellsOf 31 = 2 := by kernel_rfl
theorem cellsU : Try.prog.cellsOf 22 = 1 := by kernel_rfl
theorem cellsB : Try.prog.cellsOf 5 = 1 := by kernel_rfl

set_option maxRecDepth 100000 in
theorem open_set {H : Type} {enc : TypeId × Value → H} {W : World} {base : Nat} {v : Value} {d : DataW H} {p : List MemPlace} {b0 : Nat} {sp : Nat → Bool} {held : Bool}
    (hv : Value.okWide Try.prog W .any base 23 v) (h : DataW.Trod enc Try.prog W b0 sp held 23 v d p) : ∃ f : Nat → Bool, v = setV f := by
  obtain ⟨cs, rfl, hsz, _⟩ : ∃ cs, v = .agg cs ∧ cs.size = Try.prog.cellsOf 23 ∧ Row.okWide Try.prog W .any base 23 cs := by
    simpa [Value.okWide, Try.underlying23] using hv
  obtain ⟨c0, c1, c2, c3, rfl⟩ := Joins.array4 (hsz.trans cells4U)
  obtain ⟨fuel, hf⟩ := h
  obtain ⟨y0, y1, y2, y3, m, hx, hy0, hy1, hy2, hy3⟩ := trod_array4 Try.underlying23 cellsU hf
  obtain ⟨x0, e0, rfl, w0⟩ := DataW.trod_int Try.underlying22 hy0
  obtain ⟨x1, e1, rfl, w1⟩ := DataW.trod_int Try.underlying22 hy1
  obtain ⟨x2, e2, rfl, w2⟩ := DataW.trod_int Try.underlying22 hy2
  obtain ⟨x3, e3, rfl, w3⟩ := DataW.trod_int Try.underlying22 hy3
  simp at e0 e1 e2 e3
  subst e0 e1 e2 e3
  obtain ⟨f, e0, e1, e2, e3⟩ := exists_set x0 x1 x2 x3 (word_range w0) (word_range w1) (word_range w2) (word_range w3)
  exact ⟨f, by rw [e0, e1, e2, e3]; rfl⟩

theorem array2 {α : Type} {cs : Array α} (h : cs.size = 2) : ∃ c0 c1, cs = #[c0, c1] := by
  obtain ⟨l⟩ := cs
  match l, h with
  | [a, b], _ => exact ⟨a, b, rfl⟩
theorem trod_array2 {H : Type} {enc : TypeId × Value → H} {P : Program} {w : World} {base : Nat} {spare : Nat → Bool} {held : Bool} {t e : TypeId} {fuel : Nat} {c0 c1 : Value} {x : DataW H × List MemPlace} (ht : P.underlying t = some (.array 2 e)) (hce : P.cellsOf e = 1)
    (h : DataW.trod enc P w base spare held fuel t [c0, c1] = some x) :
    ∃ y0 y1 n, DataW.trod enc P w base spare held n e [c0] = some y0 ∧ DataW.trod enc P w base spare held n e [c1] = some y1 := by
  cases fuel with
  | zero => simp [DataW.trod] at h
  | succ n =>
    unfold DataW.trod at h
    rw [ht] at h
    have r2 : List.range 2 = [0, 1] := rfl
    simp [r2, hce] at h
    obtain ⟨_, h⟩ := h
    cases h0 : DataW.trod enc P w base spare held n e [c0] with
    | none => simp [h0] at h
    | some y0 =>
      cases h1 : DataW.trod enc P w base spare held n e [c1] with
      | none => simp [h0, h1] at h
      | some y1 => exact ⟨y0, y1, n, h0, h1⟩

set_option maxRecDepth 100000 in
theorem open_pair {H : Type} {enc : TypeId × Value → H} {W : World} {base : Nat} {v : Value} {d : DataW H} {p : List MemPlace} {b0 : Nat} {sp : Nat → Bool} {held : Bool}
    (hv : Value.okWide Try.prog W .any base 31 v) (h : DataW.Trod enc Try.prog W b0 sp held 31 v d p) : ∃ lo hi : Nat, lo < 256 ∧ hi < 256 ∧ v = .agg #[.int .u8 lo, .int .u8 hi] := by
  obtain ⟨cs, rfl, hsz, _⟩ : ∃ cs, v = .agg cs ∧ cs.size = Try.prog.cellsOf 31 ∧ Row.okWide Try.prog W .any base 31 cs := by
    simpa [Value.okWide, Try.underlying31] using hv
  obtain ⟨c0, c1, rfl⟩ := array2 (hsz.trans cells2B)
  obtain ⟨fuel, hf⟩ := h
  obtain ⟨y0, y1, m, hy0, hy1⟩ := trod_array2 Try.underlying31 cellsB hf
  obtain ⟨x0, e0, rfl, w0⟩ := DataW.trod_int Try.underlying5 hy0
  obtain ⟨x1, e1, rfl, w1⟩ := DataW.trod_int Try.underlying5 hy1
  simp at e0 e1
  subst e0 e1
  obtain ⟨lo, hlo, rfl⟩ := byte_nat w0
  obtain ⟨hi, hhi, rfl⟩ := byte_nat w1
  exact ⟨lo, hi, hlo, hhi, rfl⟩
end Go.Proofs.Ytmondgamackcgaa
