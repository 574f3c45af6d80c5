/- Plain: a text's characters, told by what stands in it; no Go in sight. -/
import Derived.Test.YtjjmfmlgemdjkaaTUtfM
import Derived.Test.YtjjmfmlgemdjkaaTUtfPlain
import Derived.Laws.Cover4
namespace Go.Proofs.Ytjjmfmlgemdjkaa
open Go.Lib (decodeN decode_at)

theorem map_inj8 : ∀ {a b : List UInt8}, a.map UInt8.toNat = b.map UInt8.toNat → a = b
  | [], [], _ => rfl
  | [], _ :: _, h => by simp at h
  | _ :: _, [], h => by simp at h
  | x :: a, y :: b, h => by
    simp only [List.map_cons, List.cons.injEq] at h
    rw [UInt8.toNat_inj.1 h.1, map_inj8 h.2]

theorem nats_len (s : ByteArray) : (nats s).length = s.size := by
  unfold nats
  rw [List.length_map, Array.length_toList]
  rfl
theorem nats_byte (s : ByteArray) : ∀ b ∈ nats s, b < 256 := by
  intro b hb
  unfold nats at hb
  obtain ⟨x, _, rfl⟩ := List.mem_map.1 hb
  exact x.toNat_lt
theorem nats_extract (s : ByteArray) (a b : Nat) : nats (s.extract a b) = ((nats s).drop a).take (b - a) := by
  unfold nats
  rw [← ByteArray.toList_eq, Go.Proofs.ext_win]
  show List.map UInt8.toNat ((s.data.toList.drop a).take (b - a)) = _
  rw [List.map_take, List.map_drop]
theorem toList_nats {s t : ByteArray} : s.toList = t.toList ↔ nats s = nats t := by
  rw [ByteArray.toList_eq, ByteArray.toList_eq]
  unfold nats
  exact ⟨fun h => by rw [h], fun h => map_inj8 h⟩
theorem nats_get (s : ByteArray) (i : Nat) : (s.get! i).toNat = (nats s).getD i 0 := by
  unfold nats
  rcases Nat.lt_or_ge i s.size with h | h
  · have h' : i < s.data.size := h
    have e : s.get! i = s.data[i] := by
      cases s
      unfold ByteArray.get!
      exact getElem!_pos _ i h'
    rw [e]
    rw [List.getD_eq_getElem?_getD, List.getElem?_map, Array.getElem?_toList, Array.getElem?_eq_getElem h']
    rfl
  · have h' : ¬ i < s.data.size := Nat.not_lt.2 h
    have e : s.get! i = default := by
      cases s
      unfold ByteArray.get!
      exact getElem!_neg _ i h'
    rw [e]
    rw [List.getD_eq_getElem?_getD, List.getElem?_eq_none (by simp; exact h)]
    rfl

theorem decode_dec (s : ByteArray) (p : Nat) : Utf8.decode s p = dec ((nats s).drop p) := by
  rw [decode_at, nats_get, nats_get, nats_get, nats_get]
  unfold dec
  simp [List.getD_eq_getElem?_getD, nats_len]
theorem stop_stop (s : ByteArray) (p : Nat) : stopB s p = true ↔ stopL ((nats s).drop p) := by
  unfold stopB stopL
  rw [decode_dec]
  simp only [Bool.and_eq_true, Bool.or_eq_true, Bool.not_eq_true', beq_iff_eq, decide_eq_true_eq, List.length_drop, nats_len, beq_eq_false_iff_ne]
  have h : (s.extract p (p + 3)).toList = [239, 191, 189] ↔ ((nats s).drop p).take 3 = [239, 191, 189] := by
    have e := toList_nats (s := s.extract p (p + 3)) (t := ⟨#[239, 191, 189]⟩)
    rw [nats_extract, show p + 3 - p = 3 from by omega, ByteArray.toList_eq ⟨#[239, 191, 189]⟩] at e
    exact e
  rw [Ne, h]

end Go.Proofs.Ytjjmfmlgemdjkaa

