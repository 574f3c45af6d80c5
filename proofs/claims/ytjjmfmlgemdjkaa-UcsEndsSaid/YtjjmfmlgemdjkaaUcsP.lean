/- Plain: ucs.Fits, May and Take, told by which characters may. -/
import Derived.Test.YtjjmfmlgemdjkaaUcsO
import Derived.Test.YtjjmfmlgemdjkaaUcsE
namespace Go.Proofs.Ytjjmfmlgemdjkaa.Pure
open Go.RowKit Go.Proofs.Ytjjmfmlgemdjkaa.PUcs Go.Proofs.YtjjmfmlgemdjkaaW.PrintWords Go.Proofs.YtjjmfmlgemdjkaaW.PrintLast Go.Proofs.YtjjmfmlgemdjkaaW.PrintMore

def fitsP (l : List Nat) : Prop := l ≠ [] ∧ ∃ c : Nat, MayP (c : Int) ∧ l <+: encN c
noncomputable def fitsB (l : List Nat) : Bool := @decide (fitsP l) (Classical.propDecidable _)
theorem fitsB_true {l : List Nat} : fitsB l = true ↔ fitsP l := by unfold fitsB; exact @decide_eq_true_iff _ (Classical.propDecidable _)
theorem fitsB_of {l : List Nat} {b : Bool} (h : b = true ↔ fitsP l) : b = fitsB l := by rw [Bool.eq_iff_iff, h, fitsB_true]

theorem fits_head {l : List Nat} (h : fitsP l) : 194 ≤ l.getD 0 0 := by
  obtain ⟨h0, c, hc, hp⟩ := h
  obtain ⟨hok, h160⟩ := may_ok hc
  cases l with
  | nil => exact absurd rfl h0
  | cons a r =>
    have h1 : [a] <+: encN c := List.IsPrefix.trans ⟨r, rfl⟩ hp
    rw [pre1] at h1
    unfold okC at hok
    show 194 ≤ a
    omega
theorem fits_begs {l : List Nat} (h : fitsP l) : Begs l := by
  obtain ⟨_, c, hc, hp⟩ := h
  exact ⟨c, (may_ok hc).1, hp⟩
theorem fits_len {l : List Nat} (h : fitsP l) : l.length ≤ 4 := by
  obtain ⟨_, c, _, hp⟩ := h
  have := hp.length_le
  have := (encN_len c).2
  omega
theorem ends_fits {l : List Nat} {lo hi : Nat} (h0 : l ≠ []) (h : Ends l lo hi) : meetsU lo hi = fitsB l := by
  refine fitsB_of ?_
  rw [meets_some lo hi (by have := h.le; omega)]
  constructor
  · rintro ⟨c, h1, h2, h3⟩
    obtain ⟨d, rfl⟩ : ∃ d : Nat, c = d := ⟨c.toNat, by omega⟩
    exact ⟨h0, d, h3, (h.all d (may_ok h3).1).2 ⟨by omega, by omega⟩⟩
  · rintro ⟨_, c, hc, hp⟩
    obtain ⟨h1, h2⟩ := (h.all c (may_ok hc).1).1 hp
    exact ⟨c, by omega, by omega, hc⟩

theorem filled_some (s : ByteArray) (hs : s.size ≤ 1000000) (c : Nat) (hc : c < 256) : ucs_filled.f s (c : Int) = some ((((fillU c 6 s).1 : Nat) : Int), (fillU c 6 s).2) := by
  unfold ucs_filled.f
  rw [if_pos ⟨hs, by omega, by omega⟩, Int.toNat_natCast]
theorem toList_is (s : ByteArray) (l : List UInt8) : s.toList = l ↔ nats s = l.map UInt8.toNat := by
  rw [ByteArray.toList_eq]
  unfold nats
  exact ⟨fun h => by rw [h], fun h => map_inj8 h⟩
theorem ends_yes (s : ByteArray) (hs : s.size ≤ 1000000) {lo hi : Nat} (h : Ends (nats s) lo hi) : ucs_ends.f s = some ((lo : Int), (hi : Int), true) := by
  obtain ⟨j, hj, hl⟩ := h.low
  obtain ⟨i, hi', hh⟩ := h.high
  have fl : ∀ t : ByteArray, nats t = lowL (nats s) → fillU 128 6 t = (lo, true) := fun t ht => fill_yes h.okl (by omega) j t 6 (by rw [ht]; exact hl) hj
  have fh : ∀ t : ByteArray, nats t = highL (nats s) → fillU 191 6 t = (hi, true) := fun t ht => fill_yes h.okh (by omega) i t 6 (by rw [ht]; exact hh) hi'
  have e1 := filled_some s hs 128 (by omega)
  have e2 := filled_some s hs 191 (by omega)
  have e3 := filled_some ⟨#[224, 160]⟩ (by decide) 128 (by omega)
  have e4 := filled_some ⟨#[240, 144]⟩ (by decide) 128 (by omega)
  have e5 := filled_some ⟨#[237, 159]⟩ (by decide) 191 (by omega)
  have e6 := filled_some ⟨#[244, 143]⟩ (by decide) 191 (by omega)
  unfold ucs_ends.f
  rw [show (128 : Int) = ((128 : Nat) : Int) from rfl, show (191 : Int) = ((191 : Nat) : Int) from rfl, e1, e2, e3, e4, e5, e6]
  simp only [Option.bind_some]
  have q : ∀ x : UInt8, s.toList = [x] ↔ nats s = [x.toNat] := fun x => toList_is s [x]
  by_cases h1 : nats s = [224]
  · rw [if_pos ((q 224).2 h1), fl ⟨#[224, 160]⟩ (by rw [h1]; rfl), fh s (by rw [h1]; rfl)]
    rfl
  rw [if_neg (fun e => h1 ((q 224).1 e))]
  by_cases h2 : nats s = [240]
  · rw [if_pos ((q 240).2 h2), fl ⟨#[240, 144]⟩ (by rw [h2]; rfl), fh s (by rw [h2]; rfl)]
    rfl
  rw [if_neg (fun e => h2 ((q 240).1 e))]
  have hlow : lowL (nats s) = nats s := by unfold lowL; rw [if_neg h1, if_neg h2]
  by_cases h3 : nats s = [237]
  · rw [if_pos ((q 237).2 h3), fh ⟨#[237, 159]⟩ (by rw [h3]; rfl), fl s hlow.symm]
    rfl
  rw [if_neg (fun e => h3 ((q 237).1 e))]
  by_cases h4 : nats s = [244]
  · rw [if_pos ((q 244).2 h4), fh ⟨#[244, 143]⟩ (by rw [h4]; rfl), fl s hlow.symm]
    rfl
  rw [if_neg (fun e => h4 ((q 244).1 e)), fl s hlow.symm, fh s (by unfold highL; rw [if_neg h3, if_neg h4])]
  rfl
theorem begs_one {a : Nat} (c : Nat) (hc : okC c) (h : [a] <+: encN c) : Begs [a] := ⟨c, hc, h⟩
theorem ends_no (s : ByteArray) (hs : s.size ≤ 1000000) (h : ¬ Begs (nats s)) : ∃ x y, ucs_ends.f s = some (x, y, false) := by
  have e1 := filled_some s hs 128 (by omega)
  have e2 := filled_some s hs 191 (by omega)
  unfold ucs_ends.f
  have q : ∀ x : UInt8, s.toList = [x] ↔ nats s = [x.toNat] := fun x => toList_is s [x]
  have hf : fillU 128 6 s = (0, false) := fill_no (by omega) 6 s fun j ch hc he => h ⟨ch, hc, ⟨_, he⟩⟩
  rw [show (128 : Int) = ((128 : Nat) : Int) from rfl, show (191 : Int) = ((191 : Nat) : Int) from rfl, e1, e2, hf]
  simp only [Option.bind_some]
  rw [if_neg (fun e => h (by rw [(q 224).1 e]; exact begs_one 2048 (by unfold okC; omega) (by rw [pre1]; decide))), if_neg (fun e => h (by rw [(q 240).1 e]; exact begs_one 65536 (by unfold okC; omega) (by rw [pre1]; decide))), if_neg (fun e => h (by rw [(q 237).1 e]; exact begs_one 53248 (by unfold okC; omega) (by rw [pre1]; decide))), if_neg (fun e => h (by rw [(q 244).1 e]; exact begs_one 1048576 (by unfold okC; omega) (by rw [pre1]; decide)))]
  exact ⟨_, _, rfl⟩
theorem fits_ucs (s : ByteArray) (hs : s.size ≤ 1000000) (k : Nat) : ucs_Fits.f (k + 1) s = some (fitsB (nats s)) := by
  unfold ucs_Fits.f
  by_cases h0 : nats s = []
  · rw [if_pos ((toList_is s []).2 h0), ucs_Fits.j0, if_pos rfl]
    exact congrArg some (fitsB_of ⟨fun h => (by cases h), fun h => absurd h0 h.1⟩)
  have hsz : 0 < s.size := by
    rcases Nat.eq_zero_or_pos s.size with h | h
    · rw [← nats_len] at h
      exact absurd (List.eq_nil_of_length_eq_zero h) h0
    · exact h
  rw [if_neg (fun e => h0 ((toList_is s []).1 e)), if_pos (by omega), show (0 : Int) = ((0 : Nat) : Int) from rfl, bt_nat]
  by_cases h1 : (nats s).getD 0 0 < 192
  · rw [decide_eq_true (by omega), ucs_Fits.j0, if_pos rfl]
    exact congrArg some (fitsB_of ⟨fun h => (by cases h), fun h => by have := fits_head h; omega⟩)
  rw [decide_eq_false (by omega), ucs_Fits.j0, if_neg (by decide)]
  by_cases hb : Begs (nats s)
  · obtain ⟨lo, hi, hE⟩ := ends_of (nats_byte s) (by omega) hb
    rw [ends_yes s hs hE, Option.bind_some, if_pos rfl]
    unfold ucs_meets.f
    rw [Option.bind_some, ends_fits h0 hE]
  · obtain ⟨x, y, he⟩ := ends_no s hs hb
    rw [he, Option.bind_some, if_neg (by simp)]
    exact congrArg some (fitsB_of ⟨fun h => (by cases h), fun h => absurd (fits_begs h) hb⟩)

noncomputable def mayB (c : Int) : Bool := @decide (MayP c) (Classical.propDecidable _)
theorem mayB_true {c : Int} : mayB c = true ↔ MayP c := by unfold mayB; exact @decide_eq_true_iff _ (Classical.propDecidable _)
theorem may_ucs (c : Int) : ucs_May.f c = some (mayB c) := by
  unfold ucs_May.f ucs_meets.f
  rw [Option.bind_some]
  refine congrArg some ?_
  rw [Bool.eq_iff_iff, meets_may, mayB_true]
end Go.Proofs.Ytjjmfmlgemdjkaa.Pure
