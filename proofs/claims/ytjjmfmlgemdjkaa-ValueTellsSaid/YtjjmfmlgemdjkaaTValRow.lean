/- Arguments of type api.Value and of type []string, opened. -/
import Derived.Test.YtjjmfmlgemdjkaaTPValx0
import Derived.Lib.SmallJoins
import Derived.SliceStrings
import Derived.Deep.SlicePairs
import Derived.WalkKit
import Derived.ProofKit
import Derived.OpenShut
import Derived.ShutString
import Derived.ChangeOld
import Derived.Below
namespace Go.Proofs.Ytjjmfmlgemdjkaa.VRow
open Go.ChangeShapes Go.WideShapes Go.ChangeAt Go.RowKit Go.Joins Go.Deep Go.Proofs.Ytjjmfmlgemdjkaa.PVal Go.Proofs.YtjjmfmlgemdjkaaW.PrintWords
open Go.ChangeMaps (open_string shut_string)

theorem own : ownKnob Try.prog.godebug = none := by kernel_rfl
theorem laidOut : laidOutB Try.prog = true := by kernel_rfl

section
variable {H : Type} {enc : TypeId × Value → H} {w : World} {base : Nat} {spare : Nat → Bool} {held : Bool}
theorem max_le : maxLen ≤ 9223372036854775807 := by decide

/-- A list of texts, read. -/
theorem texts_of {fuel : Nat} {cs : List Value} {x : DataW H × List MemPlace} (h : DataW.trod enc Try.prog w base spare held fuel 49 cs = some x) :
    ∃ (A : Option Addr) (c : Nat) (l : List ByteArray), cs = [.slice A l.length c] ∧ Kd.C Kd.string w A l.length l ∧ l.length ≤ c := by
  rcases open_strings Try.underlying49 Try.underlying9 (by kernel_rfl) h with ⟨rfl, _⟩ | ⟨a, len, cap, ss, rfl, _, hl, hm, hz, _, hcell, _⟩
  · exact ⟨none, 0, [], rfl, ⟨rfl, by simp, fun hn => absurd hn (Nat.lt_irrefl 0)⟩, Nat.le_refl _⟩
  · have hle : len ≤ ss.length := by rw [hz]; split <;> omega
    have hlen : (ss.take len).length = len := by rw [List.length_take]; omega
    refine ⟨some a, cap, ss.take len, by rw [hlen], ⟨rfl, by have := max_le; omega, fun hn => ⟨a, rfl, fun j p hj => ?_⟩⟩, by omega⟩
    have hjl : j < len := by
      have := (List.getElem?_eq_some_iff.1 hj).1
      omega
    refine ⟨[.string p], rfl, rfl, fun i u hi => ?_⟩
    have hi0 : i = 0 := by
      have := (List.getElem?_eq_some_iff.1 hi).1
      simp at this
      omega
    subst hi0
    have hu : Value.string p = u := by simpa using hi
    subst hu
    have hc := hcell j (by omega)
    rw [List.getElem?_take_of_lt hjl] at hj
    rw [List.getD_eq_getElem?_getD, hj] at hc
    show w.cell? (a.add (j * 1 + 0)) = _
    simpa using hc

/-- A list of pairs, read. -/
theorem pairs_of {fuel : Nat} {cs : List Value} {x : DataW H × List MemPlace} (h : DataW.trod enc Try.prog w base spare held fuel 50 cs = some x) :
    ∃ (A : Option Addr) (c : Nat) (l : List S76), cs = [.slice A l.length c] ∧ Kd.C k76 w A l.length l ∧ l.length ≤ c := by
  rcases open_slice_pairs Try.underlying50 Try.underlying76 (by kernel_rfl) rfl rfl (by kernel_rfl) (by kernel_rfl) h with ⟨rfl, _⟩ | ⟨a, len, cap, m, n, V0, V1, D0, D1, P0, P1, rfl, _, hl, hm, hmm, _, hx⟩
  · exact ⟨none, 0, [], rfl, ⟨rfl, by simp, fun hn => absurd hn (Nat.lt_irrefl 0)⟩, Nat.le_refl _⟩
  · have hle : len ≤ m := by rw [hmm]; split <;> omega
    have each : ∀ i, i < len → ∃ q : S76, w.cell? (a.add (i * 2)) = some (.string q.f0) ∧ w.cell? (a.add (i * 2 + 1)) = some (.string q.f1) := fun i hi => by
      obtain ⟨h1, h2, h3, h4⟩ := hx i (by omega)
      obtain ⟨s, hs, _⟩ := DataW.trod_string Try.underlying9 h3
      obtain ⟨t, ht, _⟩ := DataW.trod_string Try.underlying9 h4
      simp only [List.cons.injEq, and_true] at hs ht
      exact ⟨⟨s, t⟩, by rw [h1, hs], by rw [h2, ht]⟩
    have : Inhabited S76 := ⟨z76⟩
    obtain ⟨q, hq⟩ := choose_lt each
    have hlen : ((List.range len).map q).length = len := by simp
    refine ⟨some a, cap, (List.range len).map q, by rw [hlen], ⟨rfl, by have := max_le; omega, fun hn => ⟨a, rfl, fun j p hj => ?_⟩⟩, by omega⟩
    have hjl : j < len := by
      have := (List.getElem?_eq_some_iff.1 hj).1
      omega
    have hp : q j = p := by
      rw [List.getElem?_map, List.getElem?_range hjl] at hj
      simpa using hj
    subst hp
    obtain ⟨h1, h2⟩ := hq j hjl
    refine ⟨[.string (q j).f0, .string (q j).f1], rfl, k76_mk _ _, fun i u hi => ?_⟩
    match i, hi with
    | 0, hi =>
      have hu : Value.string (q j).f0 = u := by simpa using hi
      subst hu
      exact h1
    | 1, hi =>
      have hu : Value.string (q j).f1 = u := by simpa using hi
      subst hu
      exact h2
    | i + 2, hi => simp at hi

/-- A value, opened. -/
theorem value_of {r : Reach} {b0 : Nat} {v : Value} {d : DataW H} {p : List MemPlace} (hv : Value.okWide Try.prog w r b0 52 v) (h : DataW.Trod enc Try.prog w base spare held 52 v d p) :
    ∃ (k : Int) (s : ByteArray) (A2 : Option Addr) (c2 : Nat) (l2 : List ByteArray) (A3 : Option Addr) (c3 : Nat) (l3 : List S76),
      v = .agg #[.int .i64 k, .string s, .slice A2 l2.length c2, .slice A3 l3.length c3] ∧ Kd.C Kd.string w A2 l2.length l2 ∧ l2.length ≤ c2 ∧ Kd.C k76 w A3 l3.length l3 ∧ l3.length ≤ c3 := by
  obtain ⟨v0, v1, v2, v3, y0, y1, y2, y3, n, rfl, _, _, h0, h1, h2, h3⟩ := open_agg4 Try.underlying52 (by kernel_rfl) (by kernel_rfl) hv h
  obtain ⟨k, e0, _, _⟩ := DataW.trod_int Try.underlying3 h0
  obtain ⟨s, e1, _, _⟩ := DataW.trod_string Try.underlying9 h1
  obtain ⟨A2, c2, l2, e2, hC2, hc2⟩ := texts_of h2
  obtain ⟨A3, c3, l3, e3, hC3, hc3⟩ := pairs_of h3
  simp only [List.cons.injEq, and_true] at e0 e1 e2 e3
  subst e0 e1 e2 e3
  exact ⟨k, s, A2, c2, l2, A3, c3, l3, rfl, hC2, hc2, hC3, hc3⟩

end
end Go.Proofs.Ytjjmfmlgemdjkaa.VRow

