/- Plain: a text's characters, told by what stands in it; no Go in sight. -/
import Derived.Test.YtjjmfmlgemdjkaaUtfM
import Derived.Test.YtjjmfmlgemdjkaaUtfPlain
import Derived.Laws.Cover4
namespace Go.Proofs.Ytjjmfmlgemdjkaa
open Go.Lib (decodeN decode_at)

theorem map_inj8 : ∀ {a b : List UInt8}, a.map UInt8.toNat = b.map UInt8.toNat → a = b
  | [], [], _ => rfl
  | [], _ :: _, h => by simp at h
  | _ :: _, [], h => by simp at h
  | x :: a, y :: b, h => by
    simp only [List.map_cons, List.cons.injEq] at h
    rw [UInt8.toNat_inj.1 h.1, map_inj8 h.2]

theorem nats_len (s : ByteArray) : (nats s).length = s.size := by
  unfold nats
  rw [List.length_map, Array.length_toList]
  rfl
theorem nats_byte (s : ByteArray) : ∀ b ∈ nats s, b < 256 := by
  intro b hb
  unfold nats at hb
  obtain ⟨x, _, rfl⟩ := List.mem_map.1 hb
  exact x.toNat_lt
theorem nats_inj {s t : ByteArray} (h : nats s = nats t) : s = t := by
  unfold nats at h
  have h2 : s.data.toList = t.data.toList := map_inj8 h
  have h3 : s.data = t.data := Array.toList_inj.1 h2
  cases s; cases t
  exact congrArg _ h3
theorem nats_append (s t : ByteArray) : nats (s ++ t) = nats s ++ nats t := by
  unfold nats
  rw [Go.Joins.data_append, List.map_append]
theorem nats_extract (s : ByteArray) (a b : Nat) : nats (s.extract a b) = ((nats s).drop a).take (b - a) := by
  unfold nats
  rw [← ByteArray.toList_eq, Go.Proofs.ext_win]
  show List.map UInt8.toNat ((s.data.toList.drop a).take (b - a)) = _
  rw [List.map_take, List.map_drop]
theorem nats_mk (l : List UInt8) : nats ⟨l.toArray⟩ = l.map UInt8.toNat := rfl
theorem toList_nats {s t : ByteArray} : s.toList = t.toList ↔ nats s = nats t := by
  rw [ByteArray.toList_eq, ByteArray.toList_eq]
  unfold nats
  exact ⟨fun h => by rw [h], fun h => map_inj8 h⟩
theorem nats_get (s : ByteArray) (i : Nat) : (s.get! i).toNat = (nats s).getD i 0 := by
  unfold nats
  rcases Nat.lt_or_ge i s.size with h | h
  · have h' : i < s.data.size := h
    have e : s.get! i = s.data[i] := by
      cases s
      unfold ByteArray.get!
      exact getElem!_pos _ i h'
    rw [e]
    rw [List.getD_eq_getElem?_getD, List.getElem?_map, Array.getElem?_toList, Array.getElem?_eq_getElem h']
    rfl
  · have h' : ¬ i < s.data.size := Nat.not_lt.2 h
    have e : s.get! i = default := by
      cases s
      unfold ByteArray.get!
      exact getElem!_neg _ i h'
    rw [e]
    rw [List.getD_eq_getElem?_getD, List.getElem?_eq_none (by simp; exact h)]
    rfl

theorem decode_dec (s : ByteArray) (p : Nat) : Utf8.decode s p = dec ((nats s).drop p) := by
  rw [decode_at, nats_get, nats_get, nats_get, nats_get]
  unfold dec
  simp [List.getD_eq_getElem?_getD, nats_len]
theorem stop_stop (s : ByteArray) (p : Nat) : stopB s p = true ↔ stopL ((nats s).drop p) := by
  unfold stopB stopL
  rw [decode_dec]
  simp only [Bool.and_eq_true, Bool.or_eq_true, Bool.not_eq_true', beq_iff_eq, decide_eq_true_eq, List.length_drop, nats_len, beq_eq_false_iff_ne]
  have h : (s.extract p (p + 3)).toList = [239, 191, 189] ↔ ((nats s).drop p).take 3 = [239, 191, 189] := by
    have e := toList_nats (s := s.extract p (p + 3)) (t := ⟨#[239, 191, 189]⟩)
    rw [nats_extract, show p + 3 - p = 3 from by omega, ByteArray.toList_eq ⟨#[239, 191, 189]⟩] at e
    exact e
  rw [Ne, h]

/-- l is these characters' bytes and a rest with which no character begins. -/
def Run (l cs r : List Nat) : Prop := l = cs.flatMap encN ++ r ∧ (∀ c ∈ cs, okC c) ∧ (∀ c, okC c → ¬ encN c <+: r)

theorem run_unique : ∀ (cs ds : List Nat) {l r q : List Nat}, Run l cs r → Run l ds q → cs = ds ∧ r = q
  | [], [], l, r, q, h, k => ⟨rfl, by rw [← show l = r from by simpa using h.1, ← show l = q from by simpa using k.1]⟩
  | [], d :: ds, l, r, q, h, k => by
    refine absurd ?_ (h.2.2 d (k.2.1 d (by simp)))
    have h1 : l = r := by simpa using h.1
    rw [← h1, k.1]
    simp
  | c :: cs, [], l, r, q, h, k => by
    refine absurd ?_ (k.2.2 c (h.2.1 c (by simp)))
    have h1 : l = q := by simpa using k.1
    rw [← h1, h.1]
    simp
  | c :: cs, d :: ds, l, r, q, h, k => by
    have e := h.1.symm.trans k.1
    simp only [List.flatMap_cons, List.append_assoc] at e
    obtain ⟨rfl, e2⟩ := enc_inj (h.2.1 c (by simp)) (k.2.1 d (by simp)) e
    obtain ⟨rfl, rfl⟩ := run_unique cs ds (l := cs.flatMap encN ++ r) ⟨rfl, fun x hx => h.2.1 x (by simp [hx]), h.2.2⟩ ⟨e2, fun x hx => k.2.1 x (by simp [hx]), k.2.2⟩
    exact ⟨rfl, rfl⟩

theorem no_of_stop {l : List Nat} (h : stopL l) (c : Nat) (hc : okC c) : ¬ encN c <+: l := by
  rintro ⟨q, rfl⟩
  exact stop_enc c hc q h
theorem no_nil (c : Nat) : ¬ encN c <+: [] := by
  intro h
  exact encN_ne c (List.prefix_nil.1 h)

theorem runU_run (s : ByteArray) : ∀ b p, s.size - p ≤ b → p ≤ s.size → Run ((nats s).drop p) (runU s b p).1 ((nats s).drop (runU s b p).2)
  | 0, p, hb, hp => by
    obtain rfl : p = s.size := by omega
    refine ⟨by simp [runU], by simp [runU], fun c _ h => ?_⟩
    rw [show (nats s).drop (runU s 0 s.size).2 = [] from by rw [List.drop_eq_nil_iff, nats_len]; exact Nat.le_refl _] at h
    exact no_nil c h
  | b + 1, p, hb, hp => by
    by_cases hlt : p < s.size
    · by_cases hs : stopB s p = true
      · rw [runU_stop s b p hlt hs]
        exact ⟨by simp, by simp, fun c hc => no_of_stop ((stop_stop s p).1 hs) c hc⟩
      · have hs' : stopB s p = false := by simpa using hs
        rw [runU_go s b p hlt hs']
        have hne : (nats s).drop p ≠ [] := by
          intro h
          rw [List.drop_eq_nil_iff, nats_len] at h
          omega
        obtain ⟨h1, h2, h3⟩ := enc_dec ((nats s).drop p) hne (fun x hx => nats_byte s x (List.mem_of_mem_drop hx)) (fun h => hs ((stop_stop s p).2 h))
        rw [← decode_dec] at h1 h2 h3
        rw [List.drop_drop] at h2
        have hw : (Utf8.decode s p).2 ≤ s.size - p := by
          have := congrArg List.length h2
          rw [List.length_append, ← h3, List.length_drop, nats_len] at this
          omega
        have hpos : 1 ≤ (Utf8.decode s p).2 := by rw [h3]; exact (encN_len _).1
        obtain ⟨i1, i2, i3⟩ := runU_run s b (p + (Utf8.decode s p).2) (by omega) (by omega)
        refine ⟨?_, ?_, i3⟩
        · rw [h2, i1]
          simp
        · intro c hc
          rcases List.mem_cons.1 hc with rfl | hc
          · exact h1
          · exact i2 c hc
    · rw [runU_end s (b + 1) p hlt]
      obtain rfl : p = s.size := by omega
      refine ⟨by simp, by simp, fun c _ h => ?_⟩
      rw [show (nats s).drop s.size = [] from by rw [List.drop_eq_nil_iff, nats_len]; exact Nat.le_refl _] at h
      exact no_nil c h

theorem run_of (s : ByteArray) : Run (nats s) (charsU s) ((nats s).drop (badU s)) := by
  have h := runU_run s s.size 0 (by omega) (by omega)
  rw [List.drop_zero] at h
  exact h
theorem of_run {s : ByteArray} {cs r : List Nat} (h : Run (nats s) cs r) : charsU s = cs ∧ badU s + r.length = s.size := by
  obtain ⟨h1, h2⟩ := run_unique _ _ (run_of s) h
  refine ⟨h1, ?_⟩
  have := badU_le s
  rw [← h2, List.length_drop, nats_len]
  omega
theorem run_nil (cs : List Nat) (h : ∀ c ∈ cs, okC c) : Run (cs.flatMap encN) cs [] := ⟨by simp, h, fun c _ hh => no_nil c hh⟩
theorem run_valid {s : ByteArray} {cs : List Nat} (h : nats s = cs.flatMap encN) (hc : ∀ c ∈ cs, okC c) : charsU s = cs ∧ badU s = s.size := by
  have hr : Run (nats s) cs [] := by rw [h]; exact run_nil cs hc
  have := of_run hr
  simpa using this
/-- The valid begin. -/
theorem begin_nats (s : ByteArray) : nats (s.extract 0 (badU s)) = (charsU s).flatMap encN := by
  have h := (run_of s).1
  rw [nats_extract, List.drop_zero, Nat.sub_zero]
  have hl : ((charsU s).flatMap encN).length = badU s := by
    have := congrArg List.length h
    rw [nats_len, List.length_append, List.length_drop, nats_len] at this
    have := badU_le s
    omega
  rw [← List.take_append_drop (badU s) (nats s)] at h
  exact List.append_inj_left h (by rw [hl, List.length_take, nats_len]; have := badU_le s; omega)
theorem chars_ok (s : ByteArray) : ∀ c ∈ charsU s, okC c := (run_of s).2.1

/-- One character. -/
theorem nats_encode (c : Nat) (hc : okC c) : nats (Utf8.encode (c : Int)) = encN c := by
  have hv : Utf8.valid (c : Int) = true := by
    unfold Utf8.valid
    unfold okC at hc
    simp
    omega
  unfold Utf8.encode
  simp only [hv, if_true, Int.toNat_natCast]
  unfold okC at hc
  unfold encN
  repeat' split
  all_goals first | omega | (simp [nats]; try omega)
theorem nats_empty : nats ByteArray.empty = [] := rfl
theorem nats_runes : ∀ (l : List Int) (s : ByteArray), (∀ x ∈ l, ∃ c : Nat, x = c ∧ okC c) → nats (l.foldl (fun r n => r ++ Utf8.encode n) s) = nats s ++ (l.map Int.toNat).flatMap encN
  | [], s, _ => by simp
  | x :: l, s, h => by
    obtain ⟨c, rfl, hc⟩ := h x (by simp)
    rw [List.foldl_cons, nats_runes l _ (fun y hy => h y (by simp [hy])), nats_append, nats_encode c hc]
    simp
end Go.Proofs.Ytjjmfmlgemdjkaa
