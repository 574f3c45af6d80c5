/- Plain: what the printed functions of the laws of pct tell. -/
import Derived.Test.YtmondgamackcgaaPPctx0
import Derived.Test.YtmondgamackcgaaPPctx1
import Derived.Test.YtmondgamackcgaaPPctx2
import Derived.Test.YtmondgamackcgaaPPctx3
namespace Go.Proofs.Ytmondgamackcgaa.Pure
open Go.RowKit Go.Proofs.Ytmondgamackcgaa.PPct Go.Proofs.YtmondgamackcgaaW.PrintWords Go.Proofs.YtmondgamackcgaaW.PrintLast Go.Proofs.YtmondgamackcgaaW.PrintMore

theorem wrap_id {x : Int} (h0 : -9223372036854775808 ≤ x) (h1 : x < 9223372036854775808) : wrap64 x = x := by unfold wrap64; omega
theorem bt_nat (t : ByteArray) (i : Nat) : bt t (i : Int) = (((nats t).getD i 0 : Nat) : Int) := by
  unfold bt
  rw [Int.toNat_natCast]
  split
  · rename_i h
    rw [← nats_get]
    have h' : i < t.data.size := h
    have e : t.get! i = t.data[i] := by
      cases t
      unfold ByteArray.get!
      exact getElem!_pos _ i h'
    rw [e]
    rfl
  · rename_i h
    rw [List.getD_eq_getElem?_getD, List.getElem?_eq_none (by rw [nats_len]; omega)]
    rfl
theorem nats_nums (xs : List Int) : nats (strOfNums xs) = xs.map fun n => n.toNat % 256 := by
  unfold nats
  rw [strOfNums_data, List.map_map]
  refine List.map_congr_left fun x _ => ?_
  show (UInt8.ofNat x.toNat).toNat = _
  rw [UInt8.toNat_ofNat']
theorem awake3 : phalaropelaw03_awake.f = some true := by decide +kernel
theorem bytesN_size (l : List Nat) : (bytesN l).size = l.length := by
  show (bytesU l).toArray.size = _
  simp [bytesU]
/-- Decoded, as the call hands it. -/
def DL (l : List Nat) : ByteArray × Bool := if (decL 0 l).2 = true then (bytesN (decL 0 l).1, true) else (⟨#[]⟩, false)
theorem DL_yes {l : List Nat} (h : (decL 0 l).2 = true) : DL l = (bytesN (decL 0 l).1, true) := by unfold DL; rw [if_pos h]
theorem DL_no {l : List Nat} (h : ¬ (decL 0 l).2 = true) : DL l = (⟨#[]⟩, false) := by unfold DL; rw [if_neg h]
theorem dec_f (s : ByteArray) (h : s.size ≤ 1000000) : pct_Decode.f s = some (DL (nats s)) := by
  unfold pct_Decode.f DL
  rw [if_pos h]
  split <;> rfl
theorem enc_f (s : ByteArray) (keep : Bool) (h : s.size ≤ 1000000) : pct_Encode.f s keep = some (bytesN (encL keep (nats s))) := by unfold pct_Encode.f; rw [if_pos h]
theorem norm_f (s : ByteArray) (h : s.size ≤ 1000000) : pct_Norm.f s = some (bytesN (normL 0 (nats s))) := by unfold pct_Norm.f; rw [if_pos h]
theorem trip_f (s : ByteArray) (h : s.size ≤ 1000000) : pct_Triplet.f s = some (trip (nats s)).isSome := by unfold pct_Triplet.f; rw [if_pos h]; rfl
theorem enc_nats (s : ByteArray) (keep : Bool) : nats (bytesN (encL keep (nats s))) = encL keep (nats s) := nats_bytesN (enc_lt keep _ (nats_byte s))
theorem norm_nats (s : ByteArray) : nats (bytesN (normL 0 (nats s))) = normL 0 (nats s) := nats_bytesN (norm_lt _ (nats_byte s))
theorem dec_nats (s : ByteArray) : nats (bytesN (decL 0 (nats s)).1) = (decL 0 (nats s)).1 := nats_bytesN (dec_lt _ (nats_byte s))
theorem enc_size (s : ByteArray) (keep : Bool) : s.size ≤ (bytesN (encL keep (nats s))).size ∧ (bytesN (encL keep (nats s))).size ≤ 3 * s.size := by
  rw [bytesN_size, ← nats_len]
  exact enc_len keep _
theorem norm_size (s : ByteArray) : (bytesN (normL 0 (nats s))).size = s.size := by rw [bytesN_size, norm_len, nats_len]

/-- The reference's classes. -/
theorem digit2_f (c : Nat) : phalaroperef02_Digit.f (c : Int) = some (decide (48 ≤ c ∧ c ≤ 57)) := by
  unfold phalaroperef02_Digit.f
  by_cases h : (c : Int) ≥ 48
  · rw [if_pos h]
    exact congrArg some (by rw [Bool.eq_iff_iff]; simp; omega)
  · rw [if_neg h]
    exact congrArg some (decide_eq_false (by omega)).symm
theorem alpha_f (c : Nat) : phalaroperef02_Alpha.f (c : Int) = some (decide (65 ≤ c ∧ c ≤ 90) || decide (97 ≤ c ∧ c ≤ 122)) := by
  unfold phalaroperef02_Alpha.f
  repeat' split
  all_goals exact congrArg some (by rw [Bool.eq_iff_iff]; simp; omega)
theorem hex_f (c : Nat) : phalaroperef02_Hex.f (c : Int) = some (hexV c).isSome := by
  unfold phalaroperef02_Hex.f
  rw [digit2_f, Option.bind_some]
  unfold hexV
  by_cases h1 : 48 ≤ c ∧ c ≤ 57
  · rw [if_pos (by simpa using h1), if_pos h1]; rfl
  · rw [if_neg (by simpa using h1), if_neg h1]
    by_cases h2 : 65 ≤ c ∧ c ≤ 70
    · rw [if_pos (show (c : Int) ≥ 65 by omega), if_pos (show (c : Int) ≤ 70 by omega), if_pos h2]; rfl
    · rw [if_neg h2]
      by_cases h3 : 97 ≤ c ∧ c ≤ 102
      · rw [if_pos (show (c : Int) ≥ 65 by omega), if_neg (show ¬ (c : Int) ≤ 70 by omega), if_pos (show (c : Int) ≥ 97 by omega), if_pos h3]
        exact congrArg some (decide_eq_true (by omega))
      · rw [if_neg h3]
        repeat' split
        all_goals first | (exact absurd (by omega : 65 ≤ c ∧ c ≤ 70) h2) | exact congrArg some (decide_eq_false (by omega)) | rfl
theorem in_loop (t : ByteArray) (c : Nat) (ht : t.size ≤ 1000) : ∀ (d i k : Nat), t.size - i = d → i ≤ t.size → d + 1 ≤ k → phalaroperef02_In.l0 k t (c : Int) (i : Int) = some (((nats t).drop i).contains c)
  | 0, i, k, hd, hi, hk => by
    obtain ⟨k, rfl⟩ : ∃ m, k = m + 1 := ⟨k - 1, by omega⟩
    rw [phalaroperef02_In.l0, if_neg (by omega), List.drop_eq_nil_of_le (by rw [nats_len]; omega)]
    rfl
  | d + 1, i, k, hd, hi, hk => by
    obtain ⟨k, rfl⟩ : ∃ m, k = m + 1 := ⟨k - 1, by omega⟩
    rw [phalaroperef02_In.l0, if_pos (by omega), if_pos (by omega), bt_nat, drop_at t i (by omega), List.contains_cons, wrap_id (by omega) (by omega)]
    by_cases h : (nats t).getD i 0 = c
    · rw [if_pos (by omega), beq_iff_eq.2 h.symm]
      rfl
    · rw [if_neg (by omega), beq_eq_false_iff_ne.2 (fun e => h e.symm), Bool.false_or]
      exact in_loop t c ht d (i + 1) k (by omega) (by omega) (by omega)
theorem unres_f (c : Nat) (k : Nat) (hk : 20 ≤ k) : phalaroperef02_Unreserved.f k (c : Int) = some (unresN c) := by
  unfold phalaroperef02_Unreserved.f phalaroperef02_In.f
  rw [alpha_f, Option.bind_some]
  unfold unresN
  by_cases h1 : (decide (65 ≤ c ∧ c ≤ 90) || decide (97 ≤ c ∧ c ≤ 122)) = true
  · rw [if_pos h1, h1]; rfl
  · rw [if_neg h1, digit2_f, Option.bind_some]
    rw [show (decide (65 ≤ c ∧ c ≤ 90) || decide (97 ≤ c ∧ c ≤ 122)) = false from by simpa using h1, Bool.false_or]
    by_cases h2 : decide (48 ≤ c ∧ c ≤ 57) = true
    · rw [if_pos h2, h2]; rfl
    · rw [if_neg h2, show decide (48 ≤ c ∧ c ≤ 57) = false from by simpa using h2, Bool.false_or]
      have := in_loop ⟨#[45, 46, 95, 126]⟩ c (by decide) 4 0 k rfl (by decide) (by omega)
      rw [show ((0 : Nat) : Int) = 0 from rfl] at this
      rw [this, Option.bind_some]
      refine congrArg some ?_
      rw [List.drop_zero, show nats ⟨#[45, 46, 95, 126]⟩ = [45, 46, 95, 126] from rfl, Bool.eq_iff_iff]
      simp
theorem resv_f (c : Nat) (k : Nat) (hk : 20 ≤ k) : phalaroperef02_Reserved.f k (c : Int) = some (resvN c) := by
  unfold phalaroperef02_Reserved.f phalaroperef02_In.f
  have := in_loop ⟨#[58, 47, 63, 35, 91, 93, 64, 33, 36, 38, 39, 40, 41, 42, 43, 44, 59, 61]⟩ c (by decide) 18 0 k rfl (by decide) (by omega)
  rw [show ((0 : Nat) : Int) = 0 from rfl] at this
  rw [this, Option.bind_some]
  rfl
theorem hex_none_trip {s : ByteArray} (h3 : 3 ≤ s.size) : (trip (nats s)).isSome = (decide ((nats s).getD 0 0 = 37) && ((hexV ((nats s).getD 1 0)).isSome && (hexV ((nats s).getD 2 0)).isSome)) := by
  by_cases h0 : (nats s).getD 0 0 = 37
  · have := trip_is h3 h0
    unfold tripU at this
    rw [this, decide_eq_true h0]
    cases hexV ((nats s).getD 1 0) <;> cases hexV ((nats s).getD 2 0) <;> rfl
  · have := trip_not h0
    unfold tripU at this
    rw [this, decide_eq_false h0]
    rfl
theorem trip_ref (s : ByteArray) : phalaroperef03_Triplet.f s = some (trip (nats s)).isSome := by
  unfold phalaroperef03_Triplet.f
  by_cases h3 : 3 ≤ s.size
  · rw [hex_none_trip h3, if_pos (show (s.size : Int) ≥ 3 by omega), if_pos (show 0 < (s.size : Int) by omega)]
    have e0 := bt_nat s 0
    have e1 := bt_nat s 1
    have e2 := bt_nat s 2
    rw [show ((0 : Nat) : Int) = 0 from rfl] at e0
    rw [show ((1 : Nat) : Int) = 1 from rfl] at e1
    rw [show ((2 : Nat) : Int) = 2 from rfl] at e2
    rw [e0, e1, e2, hex_f, hex_f]
    by_cases h0 : (nats s).getD 0 0 = 37
    · rw [if_pos (by omega), if_pos (by omega), Option.bind_some, decide_eq_true h0, Bool.true_and]
      cases (hexV ((nats s).getD 1 0)).isSome
      · rfl
      · rw [if_pos rfl, if_pos (by omega)]; rfl
    · rw [if_neg (by omega), decide_eq_false h0]; rfl
  · have := trip_short (s := s) (by omega)
    unfold tripU at this
    rw [if_neg (show ¬ (s.size : Int) ≥ 3 by omega), this]
    rfl
theorem digit3_f (c : Nat) (hc : c < 256) (k : Nat) : phalaroperef03_Digit.f (k + 2) (c : Int) = some ((((digitU c).1 : Nat) : Int), (digitU c).2) := by
  unfold phalaroperef03_Digit.f
  have w : ∀ y : Int, 0 ≤ y → y ≤ 255 → wrap64 (wrap64 (c : Int) - y) = (c : Int) - y := fun y _ _ => by rw [wrap_id (x := (c : Int)) (by omega) (by omega), wrap_id (by omega) (by omega)]
  have j1 : ∀ b, ¬ (48 ≤ c ∧ c ≤ 57) → b = decide (65 ≤ c ∧ c ≤ 70) → phalaroperef03_Digit.j1 (k + 1) (c : Int) b = some ((((digitU c).1 : Nat) : Int), (digitU c).2) := by
    rintro b h1 rfl
    rw [phalaroperef03_Digit.j1]
    by_cases h2 : 65 ≤ c ∧ c ≤ 70
    · rw [if_pos (decide_eq_true h2), digitU_2 h2, w 55 (by omega) (by omega)]
      exact congrArg some (Prod.ext (by show (c : Int) - 55 = ((c - 55 : Nat) : Int); omega) rfl)
    · rw [if_neg (by simpa using h2)]
      by_cases h3 : 97 ≤ c ∧ c ≤ 102
      · rw [if_pos (show (c : Int) ≥ 97 by omega), if_pos (show (c : Int) ≤ 102 by omega), digitU_3 h3, w 87 (by omega) (by omega)]
        exact congrArg some (Prod.ext (by show (c : Int) - 87 = ((c - 87 : Nat) : Int); omega) rfl)
      · rw [digitU_4 h1 h2 h3]
        repeat' split
        all_goals first | (exact absurd (by omega : 97 ≤ c ∧ c ≤ 102) h3) | rfl
  have j0 : ∀ b, b = decide (48 ≤ c ∧ c ≤ 57) → phalaroperef03_Digit.j0 (k + 2) (c : Int) b = some ((((digitU c).1 : Nat) : Int), (digitU c).2) := by
    rintro b rfl
    rw [phalaroperef03_Digit.j0]
    by_cases h1 : 48 ≤ c ∧ c ≤ 57
    · rw [if_pos (decide_eq_true h1), digitU_1 h1, w 48 (by omega) (by omega)]
      exact congrArg some (Prod.ext (by show (c : Int) - 48 = ((c - 48 : Nat) : Int); omega) rfl)
    · rw [if_neg (by simpa using h1)]
      by_cases h2 : (c : Int) ≥ 65
      · rw [if_pos h2]
        exact j1 _ h1 (by rw [Bool.eq_iff_iff]; simp; omega)
      · rw [if_neg h2]
        exact j1 _ h1 (by rw [Bool.eq_iff_iff]; simp; omega)
  by_cases h : (c : Int) ≥ 48
  · rw [if_pos h]
    exact j0 _ (by rw [Bool.eq_iff_iff]; simp; omega)
  · rw [if_neg h]
    exact j0 _ (by rw [Bool.eq_iff_iff]; simp; omega)
end Go.Proofs.Ytmondgamackcgaa.Pure
