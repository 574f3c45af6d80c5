/- utf.Valid; slices.ContainsFunc over texts, at 'is not valid'. -/
import Derived.Test.YtjjmfmlgemdjkaaTValC
namespace Go.Proofs.Ytjjmfmlgemdjkaa
open Go.RowKit Go.Shelf Go.Proofs.YtjjmfmlgemdjkaaW.PrintWords Go.Proofs.YtjjmfmlgemdjkaaW.PrintMore Go.Proofs.YtjjmfmlgemdjkaaW.PrintLast

def validU (s : ByteArray) : Bool := decide (badU s = s.size)

theorem ret_b {a b : Bool} (h : a = b) : Ending.returned (.bool a) = .returned (.bool b) := by rw [h]

set_option maxHeartbeats 1000000 in
theorem valid_any (s : ByteArray) (hs : s.size ≤ 1000000) (w : World) :
    Calls Try.prog 29 #[.string s] w fun e w' => e = .returned (.bool (validU s)) ∧ Below w.heap.size w w' := by
  go_enter Try.func29, Try.ntmps29
  go_wp2_with fail
  refine (bad_any s hs _).mono ?_
  rintro e w2 ⟨rfl, hb⟩
  go_wp2
  go_ret
  refine ⟨ret_b ?_, hb⟩
  unfold validU
  by_cases h : badU s = s.size <;> simp [h] <;> omega

set_option maxHeartbeats 1000000 in
theorem invalid_any (s : ByteArray) (hs : s.size ≤ 1000000) (w : World) :
    Calls Try.prog 76 #[.string s] w fun e w' => e = .returned (.bool (!validU s)) ∧ Below w.heap.size w w' := by
  go_enter Try.func76, Try.ntmps76
  go_wp2_with fail
  refine (valid_any s hs _).mono ?_
  rintro e w2 ⟨rfl, hb⟩
  go_wp2
  go_ret
  exact ⟨rfl, hb⟩

set_option maxRecDepth 100000 in
set_option maxHeartbeats 2000000 in
theorem indexInvalid_any (l : List ByteArray) (hl : l.length ≤ 1000000) (hs : ∀ t ∈ l, t.size ≤ 1000000) (A : Option Addr) (c : Nat) (w : World) (hr : Kd.C Kd.string w A l.length l) :
    Calls Try.prog 84 #[.slice A l.length c, .func (.func 76) #[] #[]] w fun e w' => (∃ r : Int, e = .returned (.int .i64 r) ∧ decide (r ≥ 0) = l.any fun s => !validU s) ∧ Below w.heap.size w w' := by
  have HR := Aside0.mk hr
  have HS := Aside0.mk hs
  have HL := Aside0.mk hl
  clear hr hs hl
  go_enter Try.func84, Try.ntmps84
  go_wp2
  go_loopw [8] (fun v wr => ∃ k : Nat, v = .int .i64 k ∧ Aside0 (k ≤ l.length) ∧ Aside0 (((l.take k).any fun s => !validU s) = false) ∧ Aside0 (Below w.heap.size w wr)) (fun v _ => l.length - (intOf v).toNat)
  case atStart => exact ⟨0, rfl, ⟨Nat.zero_le _⟩, ⟨by simp⟩, ⟨Below.refl _ _⟩⟩
  case round =>
    obtain ⟨k, rfl, HK, HT, HB⟩ := hrel
    by_cases hlt : k < l.length
    · obtain ⟨ad, e, h0⟩ := Kd.at_string HR.out (k : Int) (by omega) (by omega)
      obtain ⟨t, ht⟩ : ∃ t, rdOf ByteArray.empty l (k : Int) = t := ⟨_, rfl⟩
      rw [ht] at h0
      have hcell : wr.cell? (ad.add k) = some (.string t) := by
        have := (HB.out.cell (World.block_lt_of_cell? w _ h0)).trans h0
        simpa using this
      cases e
      have hmem : t ∈ l := by
        subst ht
        simp [rdOf, hlt]
      have hsz := HS.out t hmem
      have HM := Aside0.mk (show l[k]? = some t by subst ht; simp [rdOf, hlt])
      have p1 : (0 : Int) ≤ (k : Int) := by omega
      have p2 : (k : Int) < (l.length : Int) := by omega
      have hw : IntKind.i64.wrap ((k : Int) + 1) = (k : Int) + 1 := by have := HL.out; rw [IntKind.wrap_i64]; omega
      clear ht h0 hmem
      go_wp2_with fail
      refine (invalid_any t hsz _).mono ?_
      rintro e w2 ⟨rfl, hb⟩
      by_cases hv : validU t = true
      · go_wp2
        refine ⟨⟨k + 1, rfl, ⟨hlt⟩, ⟨?_⟩, ⟨HB.out.trans (hb.mono HB.out.size)⟩⟩, ?_⟩
        · rw [List.take_add_one, HM.out]
          simp [HT.out, hv]
        · simp [intOf]; omega
      · replace hv := Bool.eq_false_iff.mpr hv
        go_wp2
        go_ret
        refine ⟨⟨(k : Int), rfl, ?_⟩, HB.out.trans (hb.mono HB.out.size)⟩
        have h1 : (l.any fun s => !validU s) = true := List.any_eq_true.2 ⟨t, List.mem_of_getElem? HM.out, by simp [hv]⟩
        rw [h1]
        exact decide_eq_true p1
    · obtain rfl : k = l.length := by have := HK.out; omega
      go_wp2
      go_ret
      have h1 := HT.out
      rw [List.take_length] at h1
      exact ⟨⟨-1, rfl, by rw [h1]; rfl⟩, HB.out⟩

set_option maxHeartbeats 1000000 in
theorem containsInvalid_any (l : List ByteArray) (hl : l.length ≤ 1000000) (hs : ∀ t ∈ l, t.size ≤ 1000000) (A : Option Addr) (c : Nat) (w : World) (hr : Kd.C Kd.string w A l.length l) :
    Calls Try.prog 75 #[.slice A l.length c, .func (.func 76) #[] #[]] w fun e w' => e = .returned (.bool (l.any fun s => !validU s)) ∧ Below w.heap.size w w' := by
  have HS := Aside0.mk hs
  go_enter Try.func75, Try.ntmps75
  go_wp2_with fail
  refine (indexInvalid_any l hl HS.out A c _ hr).mono ?_
  rintro e w2 ⟨⟨r, rfl, h1⟩, hb⟩
  have H1 := Aside0.mk h1
  clear h1
  by_cases h : r ≥ 0
  · go_wp2
    go_ret
    exact ⟨ret_b (by rw [← H1.out]; try simp [h]), hb⟩
  · go_wp2
    go_ret
    exact ⟨ret_b (by rw [← H1.out]; try simp [h]), hb⟩

end Go.Proofs.Ytjjmfmlgemdjkaa

