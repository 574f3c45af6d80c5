/- The law PctTells, out of what its functions tell. -/
import Derived.Test.YtmondgamackcgaaPctO
import Derived.Test.YtmondgamackcgaaPPctx4
import Derived.Test.YtmondgamackcgaaPPctx5
namespace Go.Proofs.Ytmondgamackcgaa.Pure
open Go.RowKit Go.Proofs.Ytmondgamackcgaa.PPct Go.Proofs.YtmondgamackcgaaW.PrintWords Go.Proofs.YtmondgamackcgaaW.PrintLast Go.Proofs.YtmondgamackcgaaW.PrintMore

theorem oneref_f (c : Nat) (hc : c < 256) : phalaroperef03_One.f (c : Int) = some (bytesN (oneN c)) := by unfold phalaroperef03_One.f; rw [if_pos (by omega), Int.toNat_natCast]
theorem cut_back (x : ByteArray) (n : Nat) : nats (x.extract n x.size) = (nats x).drop n := by
  rw [nats_extract, List.take_of_length_le (by rw [List.length_drop, nats_len]; exact Nat.le_refl _)]
theorem cut_front (x : ByteArray) (n : Nat) : nats (x.extract 0 n) = (nats x).take n := by rw [nats_extract, List.drop_zero, Nat.sub_zero]
theorem bt_0 (x : ByteArray) : bt x 0 = (((nats x).getD 0 0 : Nat) : Int) := bt_nat x 0
theorem bt_1 (x : ByteArray) : bt x 1 = (((nats x).getD 1 0 : Nat) : Int) := bt_nat x 1
theorem bt_2 (x : ByteArray) : bt x 2 = (((nats x).getD 2 0 : Nat) : Int) := bt_nat x 2
theorem nil_of {x : ByteArray} (h : x.size = 0) : nats x = [] := List.eq_nil_of_length_eq_zero (by rw [nats_len]; exact h)
theorem is_nil {x : ByteArray} : x.toList = ([] : List UInt8) ↔ x.size = 0 := by
  rw [toList_is]
  exact ⟨fun h => by rw [← nats_len, h]; rfl, fun h => nil_of h⟩

theorem enc_j1 (x out one : ByteArray) (keep flag : Bool) (k : Nat) (h1 : 1 ≤ x.size) (hx : x.size ≤ 1000000) (ho : out.size ≤ 100000000) (h3 : one.size ≤ 3) :
    phalaroperef03_Encode.j1 (k + 1) x keep out 1 one flag = if keep = true ∧ (trip (nats x)).isSome = true then phalaroperef03_Encode.l0 k (x.extract 3 x.size) keep (out ++ x.extract 0 3) else phalaroperef03_Encode.l0 k (x.extract 1 x.size) keep (out ++ if flag = true then x.extract 0 1 else one) := by
  have e3 : (x.extract 0 3).size ≤ 3 := by rw [ByteArray.size_extract]; omega
  have e1 : (x.extract 0 1).size ≤ 3 := by rw [ByteArray.size_extract]; omega
  have ht : (trip (nats x)).isSome = true → 3 ≤ x.size := by
    intro h
    cases hh : trip (nats x) with
    | none => rw [hh] at h; cases h
    | some v =>
      have := trip_fits (s := x) (p := 0) (v := v) (by rw [List.drop_zero]; exact hh)
      omega
  rw [phalaroperef03_Encode.j1]
  cases keep
  · rw [if_neg (show ¬ (false = true ∧ (trip (nats x)).isSome = true) by simp)]
    cases flag
    · rw [if_neg (by decide), if_neg (by decide), if_pos (by omega), if_pos (by omega), if_pos (by omega), if_neg (by decide)]
      rfl
    · rw [if_pos rfl, if_pos (by omega), if_pos (by omega), if_neg (by decide), if_pos (by omega), if_pos (by omega), if_pos (by omega), if_pos rfl]
      rfl
  · by_cases hT : (trip (nats x)).isSome = true
    · have h3' := ht hT
      rw [if_pos (show (true = true ∧ (trip (nats x)).isSome = true) from ⟨rfl, hT⟩), trip_ref, Option.bind_some, if_pos rfl, hT]
      cases flag
      · rw [if_neg (by decide), if_pos rfl, Option.bind_some, if_pos rfl, if_pos (by omega), if_pos (by omega), if_pos (by omega)]
      · rw [if_pos rfl, if_pos (by omega), if_pos (by omega), if_pos rfl, if_pos (by omega), if_pos (by omega), if_pos (by omega)]
    · rw [if_neg (show ¬ (true = true ∧ (trip (nats x)).isSome = true) from fun h => hT h.2), trip_ref]
      have hT' : (trip (nats x)).isSome = false := by simpa using hT
      rw [hT', Option.bind_some]
      cases flag
      · rw [if_neg (by decide), if_pos rfl, Option.bind_some, if_neg (by decide), if_pos (by omega), if_pos (by omega), if_pos (by omega), if_neg (by decide)]
        rfl
      · rw [if_pos rfl, if_pos (by omega), if_pos (by omega), if_pos rfl, if_neg (by decide), if_pos (by omega), if_pos (by omega), if_pos (by omega), if_pos rfl]
        rfl
theorem bytes_join {out : ByteArray} {l m : List Nat} (hl : ∀ b ∈ l, b < 256) (hm : ∀ b ∈ m, b < 256) {y : ByteArray} (hy : nats y = l) : (out ++ y) ++ bytesN m = out ++ bytesN (l ++ m) := by
  refine nats_inj ?_
  rw [nats_append, nats_append, nats_append, hy, nats_bytesN hm, nats_bytesN (l := l ++ m), List.append_assoc]
  intro b hb
  rcases List.mem_append.1 hb with hb | hb
  · exact hl b hb
  · exact hm b hb
theorem bytes_nil (out : ByteArray) : out ++ bytesN [] = out := nats_inj (by rw [nats_append, nats_bytesN (by simp), List.append_nil])
theorem sub_byte {x : ByteArray} (n : Nat) : ∀ b ∈ (nats x).drop n, b < 256 := fun b hb => nats_byte x b (List.mem_of_mem_drop hb)

theorem enc_ref (keep : Bool) : ∀ (n : Nat) (x out : ByteArray) (k : Nat), x.size ≤ n → n ≤ 1000000 → out.size + 3 * n ≤ 100000000 → 2 * n + 40 ≤ k → phalaroperef03_Encode.l0 k x keep out = some (out ++ bytesN (encL keep (nats x)))
  | 0, x, out, k, hx, hn, ho, hk => by
    obtain ⟨k, rfl⟩ : ∃ m, k = m + 1 := ⟨k - 1, by omega⟩
    rw [phalaroperef03_Encode.l0, if_pos (is_nil.2 (by omega)), nil_of (by omega)]
    exact congrArg some (bytes_nil out).symm
  | n + 1, x, out, k, hx, hn, ho, hk => by
    obtain ⟨k, rfl⟩ : ∃ m, k = m + 2 := ⟨k - 2, by omega⟩
    by_cases h0 : x.size = 0
    · rw [phalaroperef03_Encode.l0, if_pos (is_nil.2 h0), nil_of h0]
      exact congrArg some (bytes_nil out).symm
    have hc := byte_lt x 0
    have hcons := drop_at x 0 (by omega)
    rw [List.drop_zero] at hcons
    have hsz1 : (x.extract 1 x.size).size ≤ n := by rw [ByteArray.size_extract]; omega
    have hsz3 : (x.extract 3 x.size).size ≤ n := by rw [ByteArray.size_extract]; omega
    have ho3 : (out ++ x.extract 0 3).size + 3 * n ≤ 100000000 := by rw [ByteArray.size_append, ByteArray.size_extract]; omega
    have fin : ∀ flag : Bool, flag = (unresN ((nats x).getD 0 0) || (keep && resvN ((nats x).getD 0 0))) → phalaroperef03_Encode.j1 (k + 1) x keep out 1 (bytesN (oneN ((nats x).getD 0 0))) flag = some (out ++ bytesN (encL keep (nats x))) := by
      intro flag hflag
      rw [enc_j1 x out _ keep flag k (by omega) (by omega) (by omega) (by rw [bytesN_size]; exact Nat.le_refl 3)]
      by_cases hT : keep = true ∧ (trip (nats x)).isSome = true
      · rw [if_pos hT, enc_ref keep n _ _ k hsz3 (by omega) ho3 (by omega), cut_back]
        obtain ⟨rfl, hs⟩ := hT
        obtain ⟨v, hv⟩ := Option.isSome_iff_exists.1 hs
        obtain ⟨a, b, r, _, _, e, _⟩ := trip_cons hv
        have e3 : nats (x.extract 0 3) = [37, a, b] := by rw [cut_front, e]; rfl
        rw [bytes_join (l := [37, a, b]) (fun y hy => nats_byte x y (by rw [e]; simp at hy ⊢; rcases hy with h | h | h <;> simp [h])) (enc_lt true _ (sub_byte 3)) e3]
        rw [e] at hv ⊢
        rw [enc_trip hv]
        rfl
      · rw [if_neg hT]
        have hst : stayN keep (nats x) ((nats x).getD 0 0) = flag := by
          rw [hflag]
          unfold stayN
          cases keep
          · simp
          · have : (trip (nats x)).isSome = false := by
              cases h : (trip (nats x)).isSome
              · rfl
              · exact absurd ⟨rfl, h⟩ hT
            rw [this]
            simp
        have hdrop : nats (x.extract 1 x.size) = (nats x).drop 1 := cut_back x 1
        cases flag
        · rw [if_neg (by decide), enc_ref keep n _ _ k hsz1 (by omega) (by rw [ByteArray.size_append, bytesN_size]; show out.size + 3 + 3 * n ≤ 100000000; omega) (by omega), hdrop, bytes_join (l := oneN ((nats x).getD 0 0)) (oneN_lt hc) (enc_lt keep _ (sub_byte 1)) (nats_bytesN (oneN_lt hc))]
          have he : encL keep (nats x) = oneN ((nats x).getD 0 0) ++ encL keep ((nats x).drop 1) := by
            conv => lhs; rw [hcons]
            rw [encL, ← hcons, if_neg (by rw [hst]; decide)]
          rw [he]
        · rw [if_pos rfl, enc_ref keep n _ _ k hsz1 (by omega) (by rw [ByteArray.size_append, ByteArray.size_extract]; omega) (by omega), hdrop]
          have e1 : nats (x.extract 0 1) = [(nats x).getD 0 0] := by
            rw [cut_front]
            conv => lhs; rw [hcons]
            rfl
          rw [bytes_join (l := [(nats x).getD 0 0]) (fun y hy => by rw [List.mem_singleton] at hy; rw [hy]; exact hc) (enc_lt keep _ (sub_byte 1)) e1]
          have he : encL keep (nats x) = [(nats x).getD 0 0] ++ encL keep ((nats x).drop 1) := by
            conv => lhs; rw [hcons]
            rw [encL, ← hcons, if_pos hst]
          rw [he]
    rw [phalaroperef03_Encode.l0, if_neg (fun h => h0 (is_nil.1 h)), if_pos (by omega), bt_0, oneref_f _ hc, Option.bind_some, unres_f _ _ (by omega), Option.bind_some]
    cases hu : unresN ((nats x).getD 0 0)
    · rw [if_neg (by decide)]
      cases keep
      · rw [if_neg (by decide)]
        exact fin _ (by rw [hu]; rfl)
      · rw [if_pos rfl, resv_f _ _ (by omega), Option.bind_some]
        exact fin _ (by rw [hu]; simp)
    · rw [if_pos rfl]
      exact fin _ (by rw [hu]; rfl)

theorem digit_hex {c x : Nat} (h : hexV c = some x) : digitU c = (x, true) := by unfold digitU; rw [h]
theorem not_triple {c : Nat} {r : List Nat} (h : trip (c :: r) = none) (hc : c = 37) : (decL 0 (c :: r)).2 = false := by
  rw [dec_other h]
  simp [hc]
def mapI (l : List Nat) : List Int := l.map fun (b : Nat) => (b : Int)
theorem dec_ref : ∀ (n : Nat) (x : ByteArray) (acc : List Int) (k : Nat), x.size ≤ n → acc.length + n ≤ 100000000 → n + 10 ≤ k → phalaroperef03_Decode.l0 k x acc = some (if (decL 0 (nats x)).2 = true then (strOfNums (acc ++ mapI (decL 0 (nats x)).1), true) else (⟨#[]⟩, false))
  | 0, x, acc, k, hx, ho, hk => by
    obtain ⟨k, rfl⟩ : ∃ m, k = m + 1 := ⟨k - 1, by omega⟩
    rw [phalaroperef03_Decode.l0, if_pos (is_nil.2 (by omega)), nil_of (by omega)]
    show some (strOfNums acc, true) = some (strOfNums (acc ++ []), true)
    rw [List.append_nil]
  | n + 1, x, acc, k, hx, ho, hk => by
    obtain ⟨k, rfl⟩ : ∃ m, k = m + 3 := ⟨k - 3, by omega⟩
    by_cases h0 : x.size = 0
    · rw [phalaroperef03_Decode.l0, if_pos (is_nil.2 h0), nil_of h0]
      show some (strOfNums acc, true) = some (strOfNums (acc ++ []), true)
      rw [List.append_nil]
    have hc := byte_lt x 0
    have hcons := drop_at x 0 (by omega)
    rw [List.drop_zero] at hcons
    rw [phalaroperef03_Decode.l0, if_neg (fun h => h0 (is_nil.1 h)), if_pos (by omega), bt_0, trip_ref, Option.bind_some]
    cases ht : trip (nats x) with
    | some v =>
      obtain ⟨a, b, r, y, z, e, hy, hz, hv⟩ := trip_cons ht
      have g0 : (nats x).getD 0 0 = 37 := by rw [e]; rfl
      have g1 : (nats x).getD 1 0 = a := by rw [e]; rfl
      have g2 : (nats x).getD 2 0 = b := by rw [e]; rfl
      have h3 := trip_fits (s := x) (p := 0) (v := v) (by rw [List.drop_zero]; exact ht)
      have ha := byte_lt x 1
      have hb := byte_lt x 2
      have ly := hexV_lt hy
      have lz := hexV_lt hz
      rw [g0, if_pos (show ((37 : Nat) : Int) = 37 from rfl), if_pos (show (some v).isSome = true from rfl), if_pos (by omega), bt_1, digit3_f _ ha (k), Option.bind_some, if_pos (by omega), bt_2, digit3_f _ hb (k), Option.bind_some, g1, g2, digit_hex hy, digit_hex hz, if_pos (by omega), if_pos (by omega)]
      have hval : (wrap64 (wrap64 (16 * ((y : Nat) : Int)) + ((z : Nat) : Int))) % 256 = ((v : Nat) : Int) := by rw [wrap_id (x := 16 * ((y : Nat) : Int)) (by omega) (by omega), wrap_id (by omega) (by omega)]; omega
      show phalaroperef03_Decode.l0 (k + 2) (x.extract 3 x.size) (acc ++ [(wrap64 (wrap64 (16 * ((y : Nat) : Int)) + ((z : Nat) : Int))) % 256]) = _
      rw [hval, dec_ref n _ _ (k + 2) (by rw [ByteArray.size_extract]; omega) (by simp; omega) (by omega), cut_back, dec_trip ht]
      simp [mapI]
    | none =>
      by_cases h37 : (nats x).getD 0 0 = 37
      · have hn : (decL 0 (nats x)).2 = false := by
          rw [hcons]
          exact not_triple (by rw [← hcons]; exact ht) h37
        rw [h37, hn]
        rfl
      · have hd : decL 0 (nats x) = ((nats x).getD 0 0 :: (decL 0 ((nats x).drop 1)).1, (decL 0 ((nats x).drop 1)).2 && decide ((nats x).getD 0 0 ≠ 37)) := by
          conv => lhs; rw [hcons]
          exact dec_other (by rw [← hcons]; exact ht)
        rw [if_neg (by omega), if_pos (by omega), if_pos (by omega), dec_ref n _ _ (k + 2) (by rw [ByteArray.size_extract]; omega) (by simp; omega) (by omega), cut_back, hd, decide_eq_true h37]
        simp [mapI]
theorem nums_bytes {l : List Nat} (h : ∀ b ∈ l, b < 256) : strOfNums ([] ++ mapI l) = bytesN l := by
  refine nats_inj ?_
  rw [nats_nums, nats_bytesN h, List.nil_append]
  unfold mapI
  rw [List.map_map]
  conv => rhs; rw [← List.map_id l]
  refine List.map_congr_left fun b hb => ?_
  have := h b hb
  simp
  omega
theorem decref_f (s : ByteArray) (hs : s.size ≤ 1000000) (k : Nat) (hk : s.size + 10 ≤ k) : phalaroperef03_Decode.f k s = some (DL (nats s)) := by
  unfold phalaroperef03_Decode.f
  rw [dec_ref s.size s [] k (Nat.le_refl _) (by simp; omega) hk, nums_bytes (dec_lt _ (nats_byte s))]
  rfl

theorem norm_ref : ∀ (n : Nat) (x out : ByteArray) (k : Nat), x.size ≤ n → n ≤ 1000000 → out.size + 3 * n ≤ 100000000 → n + 40 ≤ k → phalaroperef03_Norm.l0 k x out = some (out ++ bytesN (normL 0 (nats x)))
  | 0, x, out, k, hx, hn, ho, hk => by
    obtain ⟨k, rfl⟩ : ∃ m, k = m + 1 := ⟨k - 1, by omega⟩
    rw [phalaroperef03_Norm.l0, if_pos (is_nil.2 (by omega)), nil_of (by omega)]
    exact congrArg some (bytes_nil out).symm
  | n + 1, x, out, k, hx, hn, ho, hk => by
    obtain ⟨k, rfl⟩ : ∃ m, k = m + 1 := ⟨k - 1, by omega⟩
    by_cases h0 : x.size = 0
    · rw [phalaroperef03_Norm.l0, if_pos (is_nil.2 h0), nil_of h0]
      exact congrArg some (bytes_nil out).symm
    have hc := byte_lt x 0
    have hcons := drop_at x 0 (by omega)
    rw [List.drop_zero] at hcons
    rw [phalaroperef03_Norm.l0, if_neg (fun h => h0 (is_nil.1 h)), trip_ref, Option.bind_some]
    cases ht : trip (nats x) with
    | some v =>
      obtain ⟨a, b, r, y, z, e, hy, hz, hv⟩ := trip_cons ht
      have h3 := trip_fits (s := x) (p := 0) (v := v) (by rw [List.drop_zero]; exact ht)
      have hlt := trip_lt ht
      have e3 : nats (x.extract 0 3) = [37, a, b] := by rw [cut_front, e]; rfl
      have hd : DL [37, a, b] = (bytesN [v], true) := by
        have := dec_trip (trip_hex hy hz [])
        rw [← hv] at this
        unfold DL
        rw [this]
        rfl
      have hn1 : nats (bytesN [v]) = [v] := nats_bytesN (by simp; exact hlt)
      have hb0 : bt (bytesN [v]) 0 = (v : Int) := by rw [bt_0, hn1]; rfl
      have hs1 : (bytesN [v]).size = 1 := bytesN_size [v]
      have ho1 : (bytesN (oneN v)).size = 3 := bytesN_size _
      rw [if_pos (show (some v).isSome = true from rfl), if_pos (by omega), if_pos (by omega), decref_f _ (by rw [ByteArray.size_extract]; omega) _ (by rw [ByteArray.size_extract]; omega), e3, hd, Option.bind_some]
      show (if 0 < ((bytesN [v]).size : Int) then _ else none) = _
      rw [if_pos (by rw [hs1]; decide)]
      show (phalaroperef03_One.f (bt (bytesN [v]) 0)).bind _ = _
      rw [hb0, oneref_f _ hlt, Option.bind_some, if_pos (by omega), norm_ref n _ _ k (by rw [ByteArray.size_extract]; omega) (by omega) (by rw [ByteArray.size_append, ho1]; omega) (by omega), cut_back, bytes_join (l := oneN v) (oneN_lt hlt) (norm_lt _ (sub_byte 3)) (nats_bytesN (oneN_lt hlt)), norm_trip ht]
    | none =>
      have hd : normL 0 (nats x) = [(nats x).getD 0 0] ++ normL 0 ((nats x).drop 1) := by
        conv => lhs; rw [hcons]
        exact norm_other (by rw [← hcons]; exact ht)
      have e1 : nats (x.extract 0 1) = [(nats x).getD 0 0] := by
        rw [cut_front]
        conv => lhs; rw [hcons]
        rfl
      have hs1 : (x.extract 0 1).size ≤ 1 := by rw [ByteArray.size_extract]; omega
      rw [if_neg (by simp), if_pos (by omega), if_pos (by omega), if_pos (by omega), norm_ref n _ _ k (by rw [ByteArray.size_extract]; omega) (by omega) (by rw [ByteArray.size_append]; omega) (by omega), cut_back, bytes_join (l := [(nats x).getD 0 0]) (fun y hy => by rw [List.mem_singleton] at hy; rw [hy]; exact hc) (norm_lt _ (sub_byte 1)) e1, hd]
theorem empty_join (y : ByteArray) : (⟨#[]⟩ : ByteArray) ++ y = y := nats_inj (by rw [nats_append]; rfl)
theorem PctTells : phalaropelaw03_PctTells.Pure := by
  intro s _
  refine ⟨5000, ?_⟩
  generalize hk : 5000 = k
  unfold phalaropelaw03_PctTells.f
  rw [awake3, Option.bind_some]
  by_cases h1 : (s.size : Int) > 2000
  · rw [if_pos h1]
  have he : ∀ keep, phalaroperef03_Encode.f k s keep = some (bytesN (encL keep (nats s))) := fun keep => by
    unfold phalaroperef03_Encode.f
    rw [enc_ref keep s.size s ⟨#[]⟩ k (Nat.le_refl _) (by omega) (by show 0 + 3 * s.size ≤ 100000000; omega) (by omega), empty_join]
  have hn : phalaroperef03_Norm.f k s = some (bytesN (normL 0 (nats s))) := by
    unfold phalaroperef03_Norm.f
    rw [norm_ref s.size s ⟨#[]⟩ k (Nat.le_refl _) (by omega) (by show 0 + 3 * s.size ≤ 100000000; omega) (by omega), empty_join]
  rw [if_neg h1, dec_f s (by omega), Option.bind_some, decref_f s (by omega) k (by omega), Option.bind_some, if_pos rfl, enc_f s true (by omega), Option.bind_some, he, Option.bind_some, if_pos rfl, enc_f s false (by omega), Option.bind_some, he, Option.bind_some, if_pos rfl, if_pos rfl, if_pos (by simp), norm_f s (by omega), Option.bind_some, hn, Option.bind_some]
  simp
end Go.Proofs.Ytmondgamackcgaa.Pure
