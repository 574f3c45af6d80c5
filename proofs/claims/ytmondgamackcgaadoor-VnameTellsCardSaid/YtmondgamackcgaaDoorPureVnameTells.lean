/- The law VnameTells, out of what its functions tell. -/
import Derived.Test.YtmondgamackcgaaDoorVnO
import Derived.Test.YtmondgamackcgaaDoorVnT
import Derived.Test.YtmondgamackcgaaDoorPVnx5
import Derived.Test.YtmondgamackcgaaDoorPVnx4
import Derived.Test.YtmondgamackcgaaDoorPVnx3
namespace Go.Proofs.YtmondgamackcgaaDoor.Pure
open Go.RowKit Go.Proofs.YtmondgamackcgaaDoor.PVn Go.Proofs.YtmondgamackcgaaDoorW.PrintWords Go.Proofs.YtmondgamackcgaaDoorW.PrintLast Go.Proofs.YtmondgamackcgaaDoorW.PrintMore

theorem bt_natT (t : ByteArray) (i : Nat) : bt t (i : Int) = (((nats t).getD i 0 : Nat) : Int) := by
  unfold bt
  rw [Int.toNat_natCast]
  split
  · rename_i h
    rw [← nats_get]
    have h' : i < t.data.size := h
    have e : t.get! i = t.data[i] := by
      cases t
      unfold ByteArray.get!
      exact getElem!_pos _ i h'
    rw [e]
    rfl
  · rename_i h
    rw [List.getD_eq_getElem?_getD, List.getElem?_eq_none (by rw [nats_len]; omega)]
    rfl
theorem digit2_f (c : Nat) : phalaroperef02_Digit.f (c : Int) = some (decide (48 ≤ c ∧ c ≤ 57)) := by
  unfold phalaroperef02_Digit.f
  by_cases h : (c : Int) ≥ 48
  · rw [if_pos h]
    exact congrArg some (by rw [Bool.eq_iff_iff]; simp; omega)
  · rw [if_neg h]
    exact congrArg some (decide_eq_false (by omega)).symm
theorem alpha_f (c : Nat) : phalaroperef02_Alpha.f (c : Int) = some (decide (65 ≤ c ∧ c ≤ 90) || decide (97 ≤ c ∧ c ≤ 122)) := by
  unfold phalaroperef02_Alpha.f
  repeat' split
  all_goals exact congrArg some (by rw [Bool.eq_iff_iff]; simp; omega)
theorem word_f (c : Nat) : phalaroperef02_Word.f (c : Int) = some (wordN c) := by
  unfold phalaroperef02_Word.f wordN
  rw [alpha_f, Option.bind_some]
  by_cases h1 : (decide (65 ≤ c ∧ c ≤ 90) || decide (97 ≤ c ∧ c ≤ 122)) = true
  · rw [if_pos h1, h1]; rfl
  · rw [if_neg h1, digit2_f, Option.bind_some, show (decide (65 ≤ c ∧ c ≤ 90) || decide (97 ≤ c ∧ c ≤ 122)) = false from by simpa using h1, Bool.false_or]
    by_cases h2 : decide (48 ≤ c ∧ c ≤ 57) = true
    · rw [if_pos h2, h2]; rfl
    · rw [if_neg h2, show decide (48 ≤ c ∧ c ≤ 57) = false from by simpa using h2, Bool.false_or]
      exact congrArg some (by rw [Bool.eq_iff_iff]; simp; omega)
theorem hex_f (c : Nat) : phalaroperef02_Hex.f (c : Int) = some (hexV c).isSome := by
  unfold phalaroperef02_Hex.f
  rw [digit2_f, Option.bind_some]
  unfold hexV
  by_cases h1 : 48 ≤ c ∧ c ≤ 57
  · rw [if_pos (by simpa using h1), if_pos h1]; rfl
  · rw [if_neg (by simpa using h1), if_neg h1]
    by_cases h2 : 65 ≤ c ∧ c ≤ 70
    · rw [if_pos (show (c : Int) ≥ 65 by omega), if_pos (show (c : Int) ≤ 70 by omega), if_pos h2]; rfl
    · rw [if_neg h2]
      by_cases h3 : 97 ≤ c ∧ c ≤ 102
      · rw [if_pos (show (c : Int) ≥ 65 by omega), if_neg (show ¬ (c : Int) ≤ 70 by omega), if_pos (show (c : Int) ≥ 97 by omega), if_pos h3]
        exact congrArg some (decide_eq_true (by omega))
      · rw [if_neg h3]
        repeat' split
        all_goals first | (exact absurd (by omega : 65 ≤ c ∧ c ≤ 70) h2) | exact congrArg some (decide_eq_false (by omega)) | rfl
theorem hex_none_trip {s : ByteArray} (h3 : 3 ≤ s.size) : (trip (nats s)).isSome = (decide ((nats s).getD 0 0 = 37) && ((hexV ((nats s).getD 1 0)).isSome && (hexV ((nats s).getD 2 0)).isSome)) := by
  by_cases h0 : (nats s).getD 0 0 = 37
  · have := trip_is h3 h0
    unfold tripU at this
    rw [this, decide_eq_true h0]
    cases hexV ((nats s).getD 1 0) <;> cases hexV ((nats s).getD 2 0) <;> rfl
  · have := trip_not h0
    unfold tripU at this
    rw [this, decide_eq_false h0]
    rfl
theorem trip_ref (s : ByteArray) : phalaroperef03_Triplet.f s = some (trip (nats s)).isSome := by
  unfold phalaroperef03_Triplet.f
  by_cases h3 : 3 ≤ s.size
  · rw [hex_none_trip h3, if_pos (show (s.size : Int) ≥ 3 by omega), if_pos (show 0 < (s.size : Int) by omega)]
    have e0 := bt_natT s 0
    have e1 := bt_natT s 1
    have e2 := bt_natT s 2
    rw [show ((0 : Nat) : Int) = 0 from rfl] at e0
    rw [show ((1 : Nat) : Int) = 1 from rfl] at e1
    rw [show ((2 : Nat) : Int) = 2 from rfl] at e2
    rw [e0, e1, e2, hex_f, hex_f]
    by_cases h0 : (nats s).getD 0 0 = 37
    · rw [if_pos (by omega), if_pos (by omega), Option.bind_some, decide_eq_true h0, Bool.true_and]
      cases (hexV ((nats s).getD 1 0)).isSome
      · rfl
      · rw [if_pos rfl, if_pos (by omega)]; rfl
    · rw [if_neg (by omega), decide_eq_false h0]; rfl
  · have := trip_short (s := s) (by omega)
    unfold tripU at this
    rw [if_neg (show ¬ (s.size : Int) ≥ 3 by omega), this]
    rfl
theorem cut_back (x : ByteArray) (n : Nat) : nats (x.extract n x.size) = (nats x).drop n := by
  rw [nats_extract, List.take_of_length_le (by rw [List.length_drop, nats_len]; exact Nat.le_refl _)]
theorem cut_front (x : ByteArray) (n : Nat) : nats (x.extract 0 n) = (nats x).take n := by rw [nats_extract, List.drop_zero, Nat.sub_zero]
theorem is_nil {x : ByteArray} : x.toList = ([] : List UInt8) ↔ nats x = [] := toList_is x []
theorem may2_f : ∀ (n : Nat) (x : ByteArray) (b : Bool) (k : Nat), x.size ≤ n → n + 1 ≤ k → phalaroperef05_May2.f k x b = some (nameL b (nats x))
  | n, x, b, k, hx, hk => by
    obtain ⟨k, rfl⟩ : ∃ m, k = m + 1 := ⟨k - 1, by omega⟩
    rw [phalaroperef05_May2.f]
    by_cases h0 : nats x = []
    · rw [if_pos (is_nil.2 h0), h0]
      rfl
    have hpos : 0 < x.size := by
      rcases Nat.eq_zero_or_pos x.size with h | h
      · exact absurd (List.eq_nil_of_length_eq_zero (by rw [nats_len]; exact h)) h0
      · exact h
    obtain ⟨n, rfl⟩ : ∃ m, n = m + 1 := ⟨n - 1, by omega⟩
    have hb0 := bt_natT x 0
    rw [show ((0 : Nat) : Int) = 0 from rfl] at hb0
    have hcons := drop_at x 0 hpos
    rw [List.drop_zero] at hcons
    have r1 := fun b' => may2_f n (x.extract 1 x.size) b' k (by rw [ByteArray.size_extract]; omega) (by omega)
    have r3 := fun b' => may2_f n (x.extract 3 x.size) b' k (by rw [ByteArray.size_extract]; omega) (by omega)
    rw [if_neg (fun h => h0 (is_nil.1 h)), if_pos (by omega), hb0, word_f, Option.bind_some, r1, r1, r3, cut_back, cut_back, trip_ref]
    cases hw : wordN ((nats x).getD 0 0) with
    | true =>
      rw [Option.bind_some, if_pos rfl, if_pos (by omega)]
      conv => rhs; rw [hcons]
      rw [name_word hw]
    | false =>
      rw [if_neg (by decide)]
      cases ht : (trip (nats x)).isSome with
      | true =>
        have h3 : 3 ≤ x.size := by
          obtain ⟨v, hv⟩ := Option.isSome_iff_exists.1 ht
          have := trip_fits (s := x) (p := 0) (v := v) (by rw [List.drop_zero]; exact hv)
          omega
        rw [Option.bind_some, if_pos rfl, if_pos (by omega), name_trip ht]
        rfl
      | false =>
        rw [Option.bind_some, if_neg (by decide)]
        have hd : nameL b (nats x) = (decide ((nats x).getD 0 0 = 46) && b && nameL false ((nats x).drop 1)) := by
          conv => lhs; rw [hcons]
          rw [hcons] at ht
          exact name_dot hw ht
        rw [hd]
        by_cases h46 : (nats x).getD 0 0 = 46
        · rw [if_pos (by omega), decide_eq_true h46]
          cases b
          · rfl
          · rw [if_pos rfl, if_pos (by omega)]
            rfl
        · rw [if_neg (by omega), decide_eq_false h46]
          rfl
theorem mayref_f (s : ByteArray) (k : Nat) (hk : s.size + 1 ≤ k) : phalaroperef05_May.f k s = some (nameL false (nats s)) := by
  unfold phalaroperef05_May.f
  rw [may2_f s.size s false k (Nat.le_refl _) hk]
  rfl
theorem begins_f (q : ByteArray) (k : Nat) (hq : q.size ≤ 1000) (hk : q.size + 3 ≤ k) : phalaroperef05_begins.f k q = some (decide ((endsS 0 (nats q) 0 0).1 = q.size)) := by
  have d1 : nats (⟨#[97]⟩ : ByteArray) = [97] := rfl
  have d2 : nats (⟨#[52, 49]⟩ : ByteArray) = [52, 49] := rfl
  have d3 : nats (⟨#[49]⟩ : ByteArray) = [49] := rfl
  have z1 : (q ++ (⟨#[97]⟩ : ByteArray)).size = q.size + 1 := ByteArray.size_append
  have z2 : (q ++ (⟨#[52, 49]⟩ : ByteArray)).size = q.size + 2 := ByteArray.size_append
  have z3 : (q ++ (⟨#[49]⟩ : ByteArray)).size = q.size + 1 := ByteArray.size_append
  have hB := begins_iff (nats q)
  rw [nats_len] at hB
  unfold phalaroperef05_begins.f
  rw [mayref_f q k (by omega), Option.bind_some, mayref_f _ k (by omega), Option.bind_some, mayref_f _ k (by omega), Option.bind_some, mayref_f _ k (by omega), Option.bind_some, nats_append, nats_append, nats_append, d1, d2, d3, if_pos (show q.size + 1 ≤ 9223372036854775807 by omega), if_pos (show q.size + 2 ≤ 9223372036854775807 by omega)]
  cases h1 : nameL false (nats q) with
  | true => rw [if_pos rfl, decide_eq_true (hB.1 (.inl h1))]
  | false =>
    rw [if_neg (by decide)]
    cases h2 : nameL false (nats q ++ [97]) with
    | true => rw [if_pos rfl, decide_eq_true (hB.1 (.inr (.inl h2)))]
    | false =>
      rw [if_neg (by decide)]
      cases h3 : nameL false (nats q ++ [52, 49]) with
      | true => rw [if_pos rfl, decide_eq_true (hB.1 (.inr (.inr (.inl h3))))]
      | false =>
        rw [if_neg (by decide)]
        refine congrArg some ?_
        cases h4 : nameL false (nats q ++ [49]) with
        | true => rw [decide_eq_true (hB.1 (.inr (.inr (.inr h4))))]
        | false =>
          symm
          refine decide_eq_false fun h => ?_
          rcases hB.2 h with h | h | h | h
          · rw [h1] at h; cases h
          · rw [h2] at h; cases h
          · rw [h3] at h; cases h
          · rw [h4] at h; cases h
theorem bad_step (s : ByteArray) (hs : s.size ≤ 200) (n k : Nat) (_ : n ≤ (endsS 0 (nats s) 0 0).1) (hk : 300 ≤ k) : phalaroperef05_Bad.l0 (k + 1) s (n : Int) = if n + 1 ≤ (endsS 0 (nats s) 0 0).1 then phalaroperef05_Bad.l0 k s ((n + 1 : Nat) : Int) else some (n : Int) := by
  have hle := (ends_inv (nats s) 0 0 (Nat.le_refl _)).2.1
  rw [nats_len, Nat.zero_add] at hle
  rw [phalaroperef05_Bad.l0]
  by_cases hlt : n < s.size
  · have hw : wrap64 ((n : Int) + 1) = ((n + 1 : Nat) : Int) := by rw [wrap_id (by omega) (by omega)]; omega
    have hz : (s.extract 0 (n + 1)).size = n + 1 := by rw [ByteArray.size_extract]; omega
    have hT := begins_take (l := nats s) (m := n + 1) (by rw [nats_len]; omega)
    rw [if_pos (by omega), hw, if_pos (by omega), if_pos (by omega), Int.toNat_natCast, begins_f _ k (by omega) (by omega), Option.bind_some, hz, cut_front]
    by_cases he : n + 1 ≤ (endsS 0 (nats s) 0 0).1
    · rw [decide_eq_true (hT.2 he), if_pos rfl, if_pos he]
    · rw [decide_eq_false (fun h => he (hT.1 h)), if_neg (by decide), if_neg he]
  · rw [if_neg (by omega), if_neg (by omega)]
theorem bad_loop (s : ByteArray) (hs : s.size ≤ 200) : ∀ (d n k : Nat), (endsS 0 (nats s) 0 0).1 - n = d → n ≤ (endsS 0 (nats s) 0 0).1 → d + 301 ≤ k → phalaroperef05_Bad.l0 k s (n : Int) = some (((endsS 0 (nats s) 0 0).1 : Nat) : Int)
  | 0, n, k, hd, hn, hk => by
    obtain ⟨k, rfl⟩ : ∃ m, k = m + 1 := ⟨k - 1, by omega⟩
    rw [bad_step s hs n k hn (by omega), if_neg (by omega)]
    exact congrArg some (by omega)
  | d + 1, n, k, hd, hn, hk => by
    obtain ⟨k, rfl⟩ : ∃ m, k = m + 1 := ⟨k - 1, by omega⟩
    rw [bad_step s hs n k hn (by omega), if_pos (by omega)]
    exact bad_loop s hs d (n + 1) k (by omega) (by omega) (by omega)
theorem end_step (s : ByteArray) (hs : s.size ≤ 200) (n k : Nat) (hn : (endsS 0 (nats s) 0 0).2 ≤ n) (hns : n ≤ s.size) (hk : 300 ≤ k) : phalaroperef05_End.l0 (k + 1) s (n : Int) = if n = (endsS 0 (nats s) 0 0).2 then some (n : Int) else phalaroperef05_End.l0 k s ((n - 1 : Nat) : Int) := by
  have hz : (s.extract 0 n).size = n := by rw [ByteArray.size_extract]; omega
  have hw : 0 < n → wrap64 ((n : Int) - 1) = ((n - 1 : Nat) : Int) := fun h => by rw [wrap_id (by omega) (by omega)]; omega
  rw [phalaroperef05_End.l0]
  by_cases h0 : 0 < n
  · rw [if_pos (by omega), if_pos (by omega), if_pos (by omega), Int.toNat_natCast, mayref_f _ k (by omega), Option.bind_some, cut_front, hw h0]
    cases hN : nameL false ((nats s).take n) with
    | true =>
      have := name_take (l := nats s) (n := n) (by rw [nats_len]; exact hns) hN
      rw [if_pos rfl, if_pos (by omega)]
    | false =>
      have hne : n ≠ (endsS 0 (nats s) 0 0).2 := fun h => by
        have := take_name (l := nats s) (by omega)
        rw [← h, hN] at this
        cases this
      rw [if_neg (by decide), if_neg hne]
  · rw [if_neg (by omega), if_pos (by omega)]
    exact congrArg some (by omega)
theorem end_loop (s : ByteArray) (hs : s.size ≤ 200) : ∀ (d n k : Nat), n - (endsS 0 (nats s) 0 0).2 = d → (endsS 0 (nats s) 0 0).2 ≤ n → n ≤ s.size → d + 301 ≤ k → phalaroperef05_End.l0 k s (n : Int) = some (((endsS 0 (nats s) 0 0).2 : Nat) : Int)
  | 0, n, k, hd, hn, hns, hk => by
    obtain ⟨k, rfl⟩ : ∃ m, k = m + 1 := ⟨k - 1, by omega⟩
    rw [end_step s hs n k hn hns (by omega), if_pos (by omega)]
    exact congrArg some (by omega)
  | d + 1, n, k, hd, hn, hns, hk => by
    obtain ⟨k, rfl⟩ : ∃ m, k = m + 1 := ⟨k - 1, by omega⟩
    rw [end_step s hs n k hn hns (by omega), if_neg (by omega)]
    exact end_loop s hs d (n - 1) k (by omega) (by omega) (by omega) (by omega)
theorem rd_atT (L : List ByteArray) (i : Nat) (h : i < L.length) : rdOf ByteArray.empty L (i : Int) = L[i] := by
  unfold rdOf
  rw [Int.toNat_natCast, List.getD_eq_getElem?_getD, List.getElem?_eq_getElem h]
  rfl
theorem texts_same (L : List ByteArray) (hL : L.length ≤ 1000) : ∀ (d i k : Nat), L.length - i = d → i ≤ L.length → d + 1 ≤ k → phalaroperef05_Texts.l0 k L L (i : Int) = some true
  | 0, i, k, hd, hi, hk => by
    obtain ⟨k, rfl⟩ : ∃ m, k = m + 1 := ⟨k - 1, by omega⟩
    rw [phalaroperef05_Texts.l0, if_neg (by omega)]
  | d + 1, i, k, hd, hi, hk => by
    obtain ⟨k, rfl⟩ : ∃ m, k = m + 1 := ⟨k - 1, by omega⟩
    rw [phalaroperef05_Texts.l0, if_pos (by omega), if_pos (by omega), if_pos (by omega), if_pos rfl, wrap_id (by omega) (by omega)]
    exact texts_same L hL d (i + 1) k (by omega) (by omega) (by omega)
theorem inj_list : ∀ (A B : List ByteArray), A.map nats = B.map nats → A = B
  | [], [], _ => rfl
  | [], _ :: _, h => by simp at h
  | _ :: _, [], h => by simp at h
  | a :: A, b :: B, h => by
    simp only [List.map_cons, List.cons.injEq] at h
    rw [nats_inj h.1, inj_list A B h.2]
theorem splitref_loop (s : ByteArray) (hs : s.size ≤ 200) : ∀ (d i k : Nat) (X : List ByteArray), s.size - i = d → i ≤ s.size → d + 1 ≤ k → X.map nats = splitD ((nats s).take i) → ∃ Y, phalaroperef05_Split.l0 k s X (i : Int) = some Y ∧ Y.map nats = splitD (nats s)
  | 0, i, k, X, hd, hi, hk, hX => by
    obtain ⟨k, rfl⟩ : ∃ m, k = m + 1 := ⟨k - 1, by omega⟩
    rw [List.take_of_length_le (by rw [nats_len]; omega)] at hX
    exact ⟨X, by rw [phalaroperef05_Split.l0, if_neg (by omega)], hX⟩
  | d + 1, i, k, X, hd, hi, hk, hX => by
    obtain ⟨k, rfl⟩ : ∃ m, k = m + 1 := ⟨k - 1, by omega⟩
    have hl : i < (nats s).length := by rw [nats_len]; omega
    have hlen : X.length = (splitD ((nats s).take i)).length := by rw [← hX, List.length_map]
    have hpos : 0 < X.length := by
      obtain ⟨h, t, e⟩ := splitD_cons ((nats s).take i)
      rw [hlen, e]
      simp
    have hcnt : X.length ≤ 202 := by
      rw [hlen, splitD_len]
      have := List.count_le_length (a := 46) (l := (nats s).take i)
      rw [List.length_take] at this
      omega
    have htk : (nats s).take (i + 1) = (nats s).take i ++ [(nats s).getD i 0] := by
      rw [List.take_add_one, List.getElem?_eq_getElem hl, List.getD_eq_getElem?_getD, List.getElem?_eq_getElem hl]
      rfl
    have hw : wrap64 ((i : Int) + 1) = ((i + 1 : Nat) : Int) := by rw [wrap_id (by omega) (by omega)]; omega
    have hwX : wrap64 ((X.length : Int) - 1) = ((X.length - 1 : Nat) : Int) := by rw [wrap_id (by omega) (by omega)]; omega
    rw [phalaroperef05_Split.l0, if_pos (by omega), if_pos (by omega), bt_natT, hw, hwX]
    by_cases h46 : (nats s).getD i 0 = 46
    · rw [if_pos (by omega), if_pos (by omega)]
      refine splitref_loop s hs d (i + 1) k _ (by omega) (by omega) (by omega) ?_
      rw [htk, h46, splitD_snoc_dot, List.map_append, hX]
      rfl
    · have hone : nats (s.extract i (i + 1)) = [(nats s).getD i 0] := by
        rw [nats_extract, show i + 1 - i = 1 from by omega, drop_at s i (by omega)]
        rfl
      have hlast : (X[X.length - 1]'(by omega)).size ≤ 200 := by
        have hm : nats (X[X.length - 1]'(by omega)) ∈ splitD ((nats s).take i) := by rw [← hX]; exact List.mem_map_of_mem (List.getElem_mem _)
        have := (splitD_parts _ _ hm).2
        rw [nats_len, List.length_take, nats_len] at this
        omega
      have hz : (s.extract i (i + 1)).size ≤ 1 := by rw [ByteArray.size_extract]; omega
      rw [if_neg (by omega), if_pos (by omega), if_pos (by omega), if_pos (by omega), if_pos (by omega), rd_atT X _ (by omega), Int.toNat_natCast, Int.toNat_natCast, Int.toNat_natCast, if_pos (by omega)]
      refine splitref_loop s hs d (i + 1) k _ (by omega) (by omega) (by omega) ?_
      rw [htk, splitD_snoc h46, ← hlen, ← hX, List.map_set, nats_append, hone]
      have hg : (List.map nats X).getD (X.length - 1) [] = nats (X[X.length - 1]'(by omega)) := by
        rw [List.getD_eq_getElem?_getD, List.getElem?_map, List.getElem?_eq_getElem (by omega)]
        rfl
      rw [hg]
theorem VnameTells : phalaropelaw05_VnameTells.Pure := by
  intro s _
  refine ⟨1000, ?_⟩
  generalize hk : 1000 = k
  unfold phalaropelaw05_VnameTells.f
  rw [awake5, Option.bind_some]
  by_cases h1 : (s.size : Int) > 200
  · rw [if_pos h1]
  have hs : s.size ≤ 200 := by omega
  have i1 := ends_inv (nats s) 0 0 (Nat.le_refl _)
  rw [nats_len] at i1
  have hB : phalaroperef05_Bad.f k s = some (((endsS 0 (nats s) 0 0).1 : Nat) : Int) := by
    unfold phalaroperef05_Bad.f
    exact bad_loop s hs _ 0 k rfl (by omega) (by omega)
  have hE : phalaroperef05_End.f k s = some (((endsS 0 (nats s) 0 0).2 : Nat) : Int) := by
    unfold phalaroperef05_End.f
    exact end_loop s hs _ s.size k rfl (by omega) (Nat.le_refl _) (by omega)
  have hS : phalaroperef05_Split.f k s = some (if nameL false (nats s) = true then Lib.splitB dot 0 (Lib.countB s dot) s else []) := by
    unfold phalaroperef05_Split.f
    rw [mayref_f s k (by omega), Option.bind_some]
    cases hn : nameL false (nats s) with
    | false => rfl
    | true =>
      obtain ⟨Y, hY, hm⟩ := splitref_loop s hs _ 0 k [⟨#[]⟩] rfl (by omega) (by omega) rfl
      rw [if_pos rfl, if_pos rfl]
      refine hY.trans (congrArg some ?_)
      exact inj_list _ _ (hm.trans (split_nats _ s rfl).symm)
  have hlen : (if nameL false (nats s) = true then Lib.splitB dot 0 (Lib.countB s dot) s else []).length ≤ 300 := by
    have hl := Lib.splitB_all dot (by decide) 0 _ s rfl
    have hle := Lib.countB_le dot (by decide) s.size s (Nat.le_refl _)
    split
    · omega
    · simp
  rw [if_neg h1, if_pos rfl, may_f s (by omega), Option.bind_some, mayref_f s k (by omega), Option.bind_some, if_pos (by simp), bad_f s (by omega), Option.bind_some, hB, Option.bind_some, if_pos rfl, end_f s (by omega), Option.bind_some, hE, Option.bind_some, if_pos rfl, split_f s (by omega), Option.bind_some, hS, Option.bind_some]
  generalize (if nameL false (nats s) = true then Lib.splitB dot 0 (Lib.countB s dot) s else []) = L at hlen ⊢
  unfold phalaroperef05_Texts.f
  rw [if_pos rfl, show phalaroperef05_Texts.l0 k L L 0 = some true from texts_same L (by omega) _ 0 k rfl (by omega) (by omega)]
  rfl
end Go.Proofs.YtmondgamackcgaaDoor.Pure
