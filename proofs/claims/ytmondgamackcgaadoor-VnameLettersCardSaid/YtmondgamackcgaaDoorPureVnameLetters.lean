/- The law VnameLetters, out of what its functions tell. -/
import Derived.Test.YtmondgamackcgaaDoorVnO
import Derived.Test.YtmondgamackcgaaDoorVnS
import Derived.Test.YtmondgamackcgaaDoorPVnx3
namespace Go.Proofs.YtmondgamackcgaaDoor.Pure
open Go.RowKit Go.Proofs.YtmondgamackcgaaDoor.PVn Go.Proofs.YtmondgamackcgaaDoorW.PrintWords Go.Proofs.YtmondgamackcgaaDoorW.PrintLast Go.Proofs.YtmondgamackcgaaDoorW.PrintMore

theorem bt_nat (t : ByteArray) (i : Nat) : bt t (i : Int) = (((nats t).getD i 0 : Nat) : Int) := by
  unfold bt
  rw [Int.toNat_natCast]
  split
  · rename_i h
    rw [← nats_get]
    have h' : i < t.data.size := h
    have e : t.get! i = t.data[i] := by
      cases t
      unfold ByteArray.get!
      exact getElem!_pos _ i h'
    rw [e]
    rfl
  · rename_i h
    rw [List.getD_eq_getElem?_getD, List.getElem?_eq_none (by rw [nats_len]; omega)]
    rfl
theorem nats_nums (xs : List Int) : nats (strOfNums xs) = xs.map fun n => n.toNat % 256 := by
  unfold nats
  rw [strOfNums_data, List.map_map]
  refine List.map_congr_left fun x _ => ?_
  show (UInt8.ofNat x.toNat).toNat = _
  rw [UInt8.toNat_ofNat']
theorem other_f (c : Nat) (hc : c < 256) (k : Nat) : phalaropelaw05_other.f (k + 1) (c : Int) = some ((othN c : Nat) : Int) := by
  unfold phalaropelaw05_other.f othN
  by_cases h1 : (c : Int) ≥ 97
  · rw [if_pos h1]
    by_cases h2 : c ≤ 122
    · rw [decide_eq_true (by omega), phalaropelaw05_other.j0, if_pos rfl, if_pos (by omega)]
      exact congrArg some (by omega)
    · rw [decide_eq_false (by omega), phalaropelaw05_other.j0, if_neg (by decide), if_pos (by omega), if_neg (by omega), if_neg (by omega), if_neg (by omega)]
  · rw [if_neg h1, phalaropelaw05_other.j0, if_neg (by decide)]
    by_cases h2 : 65 ≤ c ∧ c ≤ 90
    · rw [if_pos (by omega), if_pos (by omega), if_neg (by omega), if_pos h2]
      exact congrArg some (by omega)
    · rw [if_neg (show ¬ (97 ≤ c ∧ c ≤ 122) by omega), if_neg h2]
      split
      · rw [if_neg (by omega)]
      · rfl
theorem oth_byte {c : Nat} (h : c < 256) : othN c < 256 := by unfold othN; split <;> (try split) <;> omega
theorem oth_nums {c : Nat} (hc : c < 256) : nats (strOfNums [((othN c : Nat) : Int)]) = [othN c] := by
  rw [nats_nums]
  show [((othN c : Nat) : Int).toNat % 256] = _
  rw [Int.toNat_natCast, Nat.mod_eq_of_lt (oth_byte hc)]
theorem oth_name (l : List Nat) : nameL false (l.map othN) = nameL false l := by
  rw [Bool.eq_iff_iff, name_ends, name_ends, ends_oth, List.length_map]
  cases l <;> simp
theorem letters_end (s t : ByteArray) (hs : s.size ≤ 200) (ht : nats t = (nats s).map othN) (k : Nat) (i : Int) (hi : ¬ i < (s.size : Int)) : phalaropelaw05_VnameLetters.l0 (k + 1) s true t i = some true := by
  have hz : t.size = s.size := by rw [← nats_len, ht, List.length_map, nats_len]
  have n1 : nameL false (nats t) = nameL false (nats s) := by rw [ht, oth_name]
  have c1 : Lib.countB t dot = Lib.countB s dot := by rw [count_nats, count_nats, ht, count_oth]
  have l1 := Lib.splitB_all dot (by decide) 0 _ t rfl
  have l2 := Lib.splitB_all dot (by decide) 0 _ s rfl
  rw [phalaropelaw05_VnameLetters.l0, if_neg hi, if_pos rfl, may_f t (by omega), Option.bind_some, may_f s (by omega), Option.bind_some, n1, if_pos (by simp), bad_f t (by omega), Option.bind_some, bad_f s (by omega), Option.bind_some, end_f t (by omega), end_f s (by omega), ht, ends_oth, if_pos rfl, Option.bind_some, Option.bind_some, if_pos rfl, split_f t (by omega), Option.bind_some, split_f s (by omega), Option.bind_some, n1]
  cases nameL false (nats s)
  · rfl
  · rw [if_pos rfl, if_pos rfl, l1, l2, c1]
    simp
theorem letters_loop (s : ByteArray) (hs : s.size ≤ 200) : ∀ (d i k : Nat) (t : ByteArray), s.size - i = d → i ≤ s.size → d + 3 ≤ k → nats t = ((nats s).take i).map othN → phalaropelaw05_VnameLetters.l0 k s true t (i : Int) = some true
  | 0, i, k, t, hd, hi, hk, ht => by
    obtain ⟨k, rfl⟩ : ∃ m, k = m + 1 := ⟨k - 1, by omega⟩
    exact letters_end s t hs (by rw [ht, List.take_of_length_le (by rw [nats_len]; omega)]) k _ (by omega)
  | d + 1, i, k, t, hd, hi, hk, ht => by
    obtain ⟨k, rfl⟩ : ∃ m, k = m + 2 := ⟨k - 2, by omega⟩
    have hc := byte_lt s i
    have hz : t.size = i := by rw [← nats_len, ht, List.length_map, List.length_take, nats_len]; omega
    have hn := oth_nums hc
    have h1 : (strOfNums [((othN ((nats s).getD i 0) : Nat) : Int)]).size = 1 := by rw [← nats_len, hn]; rfl
    rw [phalaropelaw05_VnameLetters.l0, if_pos (by omega), if_pos (by omega), bt_nat, other_f _ hc k, Option.bind_some, Option.bind_some, h1, if_pos (by omega), wrap_id (by omega) (by omega)]
    refine letters_loop s hs d (i + 1) (k + 1) _ (by omega) (by omega) (by omega) ?_
    have hl : i < (nats s).length := by rw [nats_len]; omega
    rw [nats_append, ht, hn, List.take_add_one, List.map_append, List.getElem?_eq_getElem hl, List.getD_eq_getElem?_getD, List.getElem?_eq_getElem hl]
    rfl
theorem VnameLetters : phalaropelaw05_VnameLetters.Pure := by
  intro s _
  refine ⟨300, ?_⟩
  generalize hk : 300 = k
  unfold phalaropelaw05_VnameLetters.f
  rw [awake5, Option.bind_some]
  by_cases h1 : (s.size : Int) > 200
  · rw [if_pos h1]
  rw [if_neg h1]
  exact letters_loop s (by omega) _ 0 k _ rfl (by omega) (by omega) rfl
end Go.Proofs.YtmondgamackcgaaDoor.Pure
