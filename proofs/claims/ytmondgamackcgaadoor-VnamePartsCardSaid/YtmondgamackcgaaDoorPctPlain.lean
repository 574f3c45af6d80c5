/- Plain: bytes as triplets; no Go in sight. -/
import Derived.Test.YtmondgamackcgaaDoorKit
import Derived.Lib.SmallJoins
import Derived.Lib.RabinKarpLaws
import Derived.Laws.Cover4
namespace Go.Proofs.YtmondgamackcgaaDoor

/-- A text's bytes, as numbers. -/
def nats (s : ByteArray) : List Nat := s.data.toList.map UInt8.toNat
theorem map_inj8 : ∀ {a b : List UInt8}, a.map UInt8.toNat = b.map UInt8.toNat → a = b
  | [], [], _ => rfl
  | [], _ :: _, h => by simp at h
  | _ :: _, [], h => by simp at h
  | x :: a, y :: b, h => by
    simp only [List.map_cons, List.cons.injEq] at h
    rw [UInt8.toNat_inj.1 h.1, map_inj8 h.2]
theorem nats_len (s : ByteArray) : (nats s).length = s.size := by
  unfold nats
  rw [List.length_map, Array.length_toList]
  rfl
theorem nats_byte (s : ByteArray) : ∀ b ∈ nats s, b < 256 := by
  intro b hb
  unfold nats at hb
  obtain ⟨x, _, rfl⟩ := List.mem_map.1 hb
  exact x.toNat_lt
theorem nats_inj {s t : ByteArray} (h : nats s = nats t) : s = t := by
  unfold nats at h
  have h2 : s.data.toList = t.data.toList := map_inj8 h
  have h3 : s.data = t.data := Array.toList_inj.1 h2
  cases s; cases t
  exact congrArg _ h3
theorem nats_append (s t : ByteArray) : nats (s ++ t) = nats s ++ nats t := by
  unfold nats
  rw [Go.Joins.data_append, List.map_append]
theorem nats_extract (s : ByteArray) (a b : Nat) : nats (s.extract a b) = ((nats s).drop a).take (b - a) := by
  unfold nats
  rw [← ByteArray.toList_eq, Go.Proofs.ext_win]
  show List.map UInt8.toNat ((s.data.toList.drop a).take (b - a)) = _
  rw [List.map_take, List.map_drop]
theorem nats_mk (l : List UInt8) : nats ⟨l.toArray⟩ = l.map UInt8.toNat := rfl
theorem toList_nats {s t : ByteArray} : s.toList = t.toList ↔ nats s = nats t := by
  rw [ByteArray.toList_eq, ByteArray.toList_eq]
  unfold nats
  exact ⟨fun h => by rw [h], fun h => map_inj8 h⟩
theorem toList_is (s : ByteArray) (l : List UInt8) : s.toList = l ↔ nats s = l.map UInt8.toNat := by
  rw [ByteArray.toList_eq]
  unfold nats
  exact ⟨fun h => by rw [h], fun h => map_inj8 h⟩
theorem nats_get (s : ByteArray) (i : Nat) : (s.get! i).toNat = (nats s).getD i 0 := by
  unfold nats
  rcases Nat.lt_or_ge i s.size with h | h
  · have h' : i < s.data.size := h
    have e : s.get! i = s.data[i] := by
      cases s
      unfold ByteArray.get!
      exact getElem!_pos _ i h'
    rw [e]
    rw [List.getD_eq_getElem?_getD, List.getElem?_map, Array.getElem?_toList, Array.getElem?_eq_getElem h']
    rfl
  · have h' : ¬ i < s.data.size := Nat.not_lt.2 h
    have e : s.get! i = default := by
      cases s
      unfold ByteArray.get!
      exact getElem!_neg _ i h'
    rw [e]
    rw [List.getD_eq_getElem?_getD, List.getElem?_eq_none (by simp; exact h)]
    rfl
/-- Numbers as bytes. -/
def bytesU (l : List Nat) : List UInt8 := l.map UInt8.ofNat
def bytesN (l : List Nat) : ByteArray := ⟨(bytesU l).toArray⟩
theorem bytesU_nat {l : List Nat} (h : ∀ b ∈ l, b < 256) : (bytesU l).map UInt8.toNat = l := by
  unfold bytesU
  rw [List.map_map]
  conv => rhs; rw [← List.map_id l]
  exact List.map_congr_left fun b hb => by simp; exact h b hb
theorem nats_bytesN {l : List Nat} (h : ∀ b ∈ l, b < 256) : nats (bytesN l) = l := by
  unfold bytesN
  rw [nats_mk, bytesU_nat h]

def hexV (c : Nat) : Option Nat := if 48 ≤ c ∧ c ≤ 57 then some (c - 48) else if 65 ≤ c ∧ c ≤ 70 then some (c - 55) else if 97 ≤ c ∧ c ≤ 102 then some (c - 87) else none
def upD (n : Nat) : Nat := if n < 10 then 48 + n else 55 + n
/-- The byte of the triplet with which it begins. -/
def trip : List Nat → Option Nat
  | c :: a :: b :: _ => if c = 37 then (match hexV a, hexV b with | some x, some y => some (16 * x + y) | _, _ => none) else none
  | _ => none
def oneN (c : Nat) : List Nat := [37, upD (c / 16), upD (c % 16)]
def unresN (c : Nat) : Bool := decide (65 ≤ c ∧ c ≤ 90) || decide (97 ≤ c ∧ c ≤ 122) || decide (48 ≤ c ∧ c ≤ 57) || decide (c = 45 ∨ c = 46 ∨ c = 95 ∨ c = 126)
def resvN (c : Nat) : Bool := [58, 47, 63, 35, 91, 93, 64, 33, 36, 38, 39, 40, 41, 42, 43, 44, 59, 61].contains c
def stayN (keep : Bool) (l : List Nat) (c : Nat) : Bool := unresN c || (keep && (resvN c || (trip l).isSome))
def encL (keep : Bool) : List Nat → List Nat
  | [] => []
  | c :: r => (if stayN keep (c :: r) c = true then [c] else oneN c) ++ encL keep r
def decL : Nat → List Nat → List Nat × Bool
  | _, [] => ([], true)
  | k + 1, _ :: r => decL k r
  | 0, c :: r => match trip (c :: r) with
    | some v => (v :: (decL 2 r).1, (decL 2 r).2)
    | none => (c :: (decL 0 r).1, (decL 0 r).2 && decide (c ≠ 37))
def normL : Nat → List Nat → List Nat
  | _, [] => []
  | k + 1, _ :: r => normL k r
  | 0, c :: r => match trip (c :: r) with
    | some v => oneN v ++ normL 2 r
    | none => c :: normL 0 r

theorem hexV_lt {c x : Nat} (h : hexV c = some x) : x < 16 := by
  unfold hexV at h
  split at h
  · injection h; omega
  split at h
  · injection h; omega
  split at h
  · injection h; omega
  · cases h
theorem hexV_up {n : Nat} (h : n < 16) : hexV (upD n) = some n := by
  unfold upD hexV
  split
  · rw [if_pos (by omega)]
    exact congrArg some (by omega)
  · rw [if_neg (by omega), if_pos (by omega)]
    exact congrArg some (by omega)
theorem hexV_unres {c x : Nat} (h : hexV c = some x) : unresN c = true := by
  unfold hexV at h
  unfold unresN
  split at h
  · rename_i hh; simp [hh]
  split at h
  · simp; omega
  split at h
  · simp; omega
  · cases h
theorem hexV_37 : hexV 37 = none := rfl
theorem unres_37 : unresN 37 = false := rfl
theorem resv_37 : resvN 37 = false := rfl
theorem upD_lt {n : Nat} (h : n < 16) : upD n < 256 := by unfold upD; split <;> omega
theorem trip_cons {l : List Nat} {v : Nat} (h : trip l = some v) : ∃ a b r x y, l = 37 :: a :: b :: r ∧ hexV a = some x ∧ hexV b = some y ∧ v = 16 * x + y := by
  match l, h with
  | [], h => cases h
  | [_], h => cases h
  | [_, _], h => cases h
  | c :: a :: b :: r, h =>
    simp only [trip] at h
    split at h
    · rename_i hc
      subst hc
      cases hx : hexV a with
      | none => rw [hx] at h; cases h
      | some x =>
        cases hy : hexV b with
        | none => rw [hx, hy] at h; cases h
        | some y =>
          rw [hx, hy] at h
          injection h with h
          exact ⟨a, b, r, x, y, rfl, hx, hy, h.symm⟩
    · cases h
theorem trip_lt {l : List Nat} {v : Nat} (h : trip l = some v) : v < 256 := by
  obtain ⟨a, b, r, x, y, _, hx, hy, rfl⟩ := trip_cons h
  have := hexV_lt hx
  have := hexV_lt hy
  omega
theorem trip_hex {a b x y : Nat} (hx : hexV a = some x) (hy : hexV b = some y) (r : List Nat) : trip (37 :: a :: b :: r) = some (16 * x + y) := by simp only [trip, if_true, hx, hy]
theorem trip_one {c : Nat} (hc : c < 256) (r : List Nat) : trip (oneN c ++ r) = some c := by
  unfold oneN
  refine (trip_hex (hexV_up (by omega)) (hexV_up (by omega)) r).trans ?_
  exact congrArg some (by omega)
theorem trip_first {c : Nat} (h : c ≠ 37) (r : List Nat) : trip (c :: r) = none := by
  cases ht : trip (c :: r) with
  | none => rfl
  | some v =>
    obtain ⟨a, b, r', x, y, e, _⟩ := trip_cons ht
    injection e with e1 e2
    exact absurd e1 h
theorem trip_ind {P : List Nat → Prop} (h0 : P []) (h3 : ∀ a b r v, trip (37 :: a :: b :: r) = some v → P r → P (37 :: a :: b :: r)) (h1 : ∀ c r, trip (c :: r) = none → P r → P (c :: r)) (l : List Nat) : P l := by
  suffices h : ∀ n (l : List Nat), l.length ≤ n → P l from h l.length l (Nat.le_refl _)
  intro n
  induction n with
  | zero =>
    intro l hl
    obtain rfl : l = [] := List.eq_nil_of_length_eq_zero (by omega)
    exact h0
  | succ n ih =>
    intro l hl
    match l, hl with
    | [], _ => exact h0
    | c :: r, hl =>
      cases ht : trip (c :: r) with
      | none => exact h1 c r ht (ih r (by simp at hl; omega))
      | some v =>
        obtain ⟨a, b, r', x, y, e, _⟩ := trip_cons ht
        rw [e] at ht hl ⊢
        exact h3 a b r' v ht (ih r' (by simp at hl; omega))

theorem dec_trip {l : List Nat} {v : Nat} (h : trip l = some v) : decL 0 l = (v :: (decL 0 (l.drop 3)).1, (decL 0 (l.drop 3)).2) := by
  obtain ⟨a, b, r, x, y, rfl, _⟩ := trip_cons h
  rw [decL, h]
  rfl
theorem dec_other {c : Nat} {r : List Nat} (h : trip (c :: r) = none) : decL 0 (c :: r) = (c :: (decL 0 r).1, (decL 0 r).2 && decide (c ≠ 37)) := by rw [decL, h]
theorem norm_trip {l : List Nat} {v : Nat} (h : trip l = some v) : normL 0 l = oneN v ++ normL 0 (l.drop 3) := by
  obtain ⟨a, b, r, x, y, rfl, _⟩ := trip_cons h
  rw [normL, h]
  rfl
theorem norm_other {c : Nat} {r : List Nat} (h : trip (c :: r) = none) : normL 0 (c :: r) = c :: normL 0 r := by rw [normL, h]
theorem dec_one {c : Nat} (hc : c < 256) (r : List Nat) : decL 0 (oneN c ++ r) = (c :: (decL 0 r).1, (decL 0 r).2) := dec_trip (trip_one hc r)
theorem norm_one {c : Nat} (hc : c < 256) (r : List Nat) : normL 0 (oneN c ++ r) = oneN c ++ normL 0 r := norm_trip (trip_one hc r)
theorem oneN_lt {c : Nat} (hc : c < 256) : ∀ b ∈ oneN c, b < 256 := by
  intro b hb
  unfold oneN at hb
  have h1 := upD_lt (n := c / 16) (by omega)
  have h2 := upD_lt (n := c % 16) (by omega)
  simp at hb
  omega

theorem enc_lt (keep : Bool) : ∀ (l : List Nat), (∀ b ∈ l, b < 256) → ∀ b ∈ encL keep l, b < 256
  | [], _, b, hb => by cases hb
  | c :: r, h, b, hb => by
    rw [encL, List.mem_append] at hb
    rcases hb with hb | hb
    · split at hb
      · rw [List.mem_singleton] at hb
        subst hb
        exact h _ (by simp)
      · exact oneN_lt (h c (by simp)) b hb
    · exact enc_lt keep r (fun x hx => h x (by simp [hx])) b hb
theorem dec_lt (l : List Nat) : (∀ b ∈ l, b < 256) → ∀ b ∈ (decL 0 l).1, b < 256 := by
  refine trip_ind (P := fun l => (∀ b ∈ l, b < 256) → ∀ b ∈ (decL 0 l).1, b < 256) ?_ ?_ ?_ l
  · intro _ b hb; cases hb
  · intro a b r v ht ih h x hx
    rw [dec_trip ht] at hx
    rcases List.mem_cons.1 hx with rfl | hx
    · exact trip_lt ht
    · exact ih (fun y hy => h y (by simp [hy])) x hx
  · intro c r ht ih h x hx
    rw [dec_other ht] at hx
    rcases List.mem_cons.1 hx with rfl | hx
    · exact h _ (by simp)
    · exact ih (fun y hy => h y (by simp [hy])) x hx
theorem norm_lt (l : List Nat) : (∀ b ∈ l, b < 256) → ∀ b ∈ normL 0 l, b < 256 := by
  refine trip_ind (P := fun l => (∀ b ∈ l, b < 256) → ∀ b ∈ normL 0 l, b < 256) ?_ ?_ ?_ l
  · intro _ b hb; cases hb
  · intro a b r v ht ih h x hx
    rw [norm_trip ht] at hx
    rcases List.mem_append.1 hx with hx | hx
    · exact oneN_lt (trip_lt ht) x hx
    · exact ih (fun y hy => h y (by simp [hy])) x hx
  · intro c r ht ih h x hx
    rw [norm_other ht] at hx
    rcases List.mem_cons.1 hx with rfl | hx
    · exact h _ (by simp)
    · exact ih (fun y hy => h y (by simp [hy])) x hx

/-- What is encoded without keep is decoded as it was. -/
theorem dec_enc : ∀ (l : List Nat), (∀ b ∈ l, b < 256) → decL 0 (encL false l) = (l, true)
  | [], _ => rfl
  | c :: r, h => by
    have ih := dec_enc r fun x hx => h x (by simp [hx])
    rw [encL]
    by_cases hs : stayN false (c :: r) c = true
    · have hc : c ≠ 37 := by rintro rfl; simp [stayN, unres_37] at hs
      rw [if_pos hs, List.singleton_append, dec_other (trip_first hc _), ih]
      simp [hc]
    · rw [if_neg hs, dec_one (h c (by simp)), ih]
theorem enc_trip {a b : Nat} {r : List Nat} {v : Nat} (h : trip (37 :: a :: b :: r) = some v) : encL true (37 :: a :: b :: r) = 37 :: a :: b :: encL true r := by
  obtain ⟨a', b', r', x, y, e, hx, hy, _⟩ := trip_cons h
  injection e with _ e
  injection e with e1 e
  injection e with e2 e
  subst e1; subst e2; subst e
  rw [encL, if_pos (by simp [stayN, h]), encL, if_pos (by simp [stayN, hexV_unres hx]), encL, if_pos (by simp [stayN, hexV_unres hy])]
  rfl
theorem stay_none {keep : Bool} {c : Nat} {r : List Nat} (h : trip (c :: r) = none) (hs : stayN keep (c :: r) c = true) : c ≠ 37 := by
  rintro rfl
  simp [stayN, h, unres_37, resv_37] at hs
theorem dec_keep (l : List Nat) : (∀ b ∈ l, b < 256) → (decL 0 (encL true l)).2 = true ∧ ((37 ∉ l) → (decL 0 (encL true l)).1 = l) := by
  refine trip_ind (P := fun l => (∀ b ∈ l, b < 256) → (decL 0 (encL true l)).2 = true ∧ ((37 ∉ l) → (decL 0 (encL true l)).1 = l)) ?_ ?_ ?_ l
  · exact fun _ => ⟨rfl, fun _ => rfl⟩
  · intro a b r v ht ih h
    obtain ⟨a', b', r', x, y, e, hx, hy, _⟩ := trip_cons ht
    injection e with _ e
    injection e with e1 e
    injection e with e2 e
    subst e1; subst e2; subst e
    rw [enc_trip ht, dec_trip (trip_hex hx hy _)]
    exact ⟨(ih fun y hy => h y (by simp [hy])).1, fun hn => absurd (by simp) hn⟩
  · intro c r ht ih h
    have ih := ih fun y hy => h y (by simp [hy])
    rw [encL]
    by_cases hs : stayN true (c :: r) c = true
    · have hc := stay_none ht hs
      rw [if_pos hs, List.singleton_append, dec_other (trip_first hc _)]
      refine ⟨by simp [ih.1, hc], fun hn => ?_⟩
      show c :: _ = _
      rw [ih.2 fun hm => hn (by simp [hm])]
    · rw [if_neg hs, dec_one (h c (by simp))]
      refine ⟨ih.1, fun hn => ?_⟩
      show c :: _ = _
      rw [ih.2 fun hm => hn (by simp [hm])]

/-- Nothing but bytes that may stand in a URI. -/
def uriB (keep : Bool) (l : List Nat) : Bool := match l with | [] => true | c :: _ => unresN c || (keep && resvN c) || (trip l).isSome
def UriP (keep : Bool) : List Nat → Prop
  | [] => True
  | c :: r => uriB keep (c :: r) = true ∧ UriP keep r
theorem uri_unres {keep : Bool} {c : Nat} (h : unresN c = true) (r : List Nat) : uriB keep (c :: r) = true := by simp [uriB, h]
theorem uri_enc (keep : Bool) (l : List Nat) : (∀ b ∈ l, b < 256) → UriP keep (encL keep l) := by
  refine trip_ind (P := fun l => (∀ b ∈ l, b < 256) → UriP keep (encL keep l)) ?_ ?_ ?_ l
  · exact fun _ => trivial
  · intro a b r v ht ih h
    have ih := ih fun y hy => h y (by simp [hy])
    obtain ⟨a', b', r', x, y, e, hx, hy, _⟩ := trip_cons ht
    injection e with _ e
    injection e with e1 e
    injection e with e2 e
    subst e1; subst e2; subst e
    cases keep with
    | true =>
      rw [enc_trip ht]
      exact ⟨by simp [uriB, trip_hex hx hy], uri_unres (hexV_unres hx) _, uri_unres (hexV_unres hy) _, ih⟩
    | false =>
      rw [encL, if_neg (by simp [stayN, unres_37]), encL, if_pos (by simp [stayN, hexV_unres hx]), encL, if_pos (by simp [stayN, hexV_unres hy])]
      refine ⟨?_, uri_unres (hexV_unres (hexV_up (by omega))) _, uri_unres (hexV_unres (hexV_up (by omega))) _, uri_unres (hexV_unres hx) _, uri_unres (hexV_unres hy) _, ih⟩
      have := trip_one (c := 37) (by omega) ([a] ++ ([b] ++ encL false r))
      unfold oneN at this
      simp only [uriB]
      rw [show trip (37 :: ([upD (37 / 16), upD (37 % 16)].append ([a] ++ ([b] ++ encL false r)))) = some 37 from this]
      simp
  · intro c r ht ih h
    have ih := ih fun y hy => h y (by simp [hy])
    rw [encL]
    by_cases hs : stayN keep (c :: r) c = true
    · rw [if_pos hs, List.singleton_append]
      refine ⟨?_, ih⟩
      simp [stayN, ht] at hs
      simp [uriB]
      rcases hs with hs | hs
      · exact .inl (.inl hs)
      · exact .inl (.inr hs)
    · rw [if_neg hs]
      have hc := h c (by simp)
      refine ⟨?_, uri_unres (hexV_unres (hexV_up (by omega))) _, uri_unres (hexV_unres (hexV_up (by omega))) _, ih⟩
      have := trip_one hc (encL keep r)
      unfold oneN at this
      simp only [uriB]
      rw [show trip (37 :: ([upD (c / 16), upD (c % 16)].append (encL keep r))) = some c from this]
      simp
theorem uri_fix {keep : Bool} : ∀ {l : List Nat}, UriP keep l → encL true l = l
  | [], _ => rfl
  | c :: r, h => by
    have hs : stayN true (c :: r) c = true := by
      have h1 := h.1
      simp [uriB] at h1
      simp [stayN]
      rcases h1 with (h1 | h1) | h1
      · exact .inl h1
      · exact .inr (.inl h1.2)
      · exact .inr (.inr h1)
    rw [encL, if_pos hs, uri_fix h.2]
    rfl
theorem uri_at {keep : Bool} : ∀ {l : List Nat}, UriP keep l → ∀ i, i < l.length → uriB keep (l.drop i) = true
  | [], _, i, hi => by simp at hi
  | c :: r, h, 0, _ => h.1
  | c :: r, h, i + 1, hi => by
    rw [List.drop_succ_cons]
    exact uri_at h.2 i (by simp at hi; omega)
theorem enc_len (keep : Bool) : ∀ (l : List Nat), l.length ≤ (encL keep l).length ∧ (encL keep l).length ≤ 3 * l.length
  | [] => ⟨Nat.le_refl _, Nat.le_refl _⟩
  | c :: r => by
    have ih := enc_len keep r
    rw [encL, List.length_append]
    split
    · simp; omega
    · simp [oneN]; omega

/-- Great letters. -/
theorem norm_head (l : List Nat) : (normL 0 l).head? = l.head? := by
  cases l with
  | nil => rfl
  | cons c r =>
    cases ht : trip (c :: r) with
    | none => rw [norm_other ht]; rfl
    | some v =>
      obtain ⟨a, b, r', x, y, e, _⟩ := trip_cons ht
      rw [norm_trip ht, e]
      rfl
theorem hex_none {a b : Nat} {r : List Nat} (h : trip (37 :: a :: b :: r) = none) : hexV a = none ∨ hexV b = none := by
  cases hx : hexV a with
  | none => exact .inl rfl
  | some x =>
    cases hy : hexV b with
    | none => exact .inr rfl
    | some y => rw [trip_hex hx hy] at h; cases h
theorem none_hex {a b : Nat} {r : List Nat} (h : hexV a = none ∨ hexV b = none) : trip (37 :: a :: b :: r) = none := by
  cases ht : trip (37 :: a :: b :: r) with
  | none => rfl
  | some v =>
    obtain ⟨a', b', r', x, y, e, hx, hy, _⟩ := trip_cons ht
    injection e with _ e
    injection e with e1 e
    injection e with e2 e
    subst e1; subst e2
    rcases h with h | h
    · rw [h] at hx; cases hx
    · rw [h] at hy; cases hy
theorem norm_none {r : List Nat} (h : trip (37 :: r) = none) : trip (37 :: normL 0 r) = none := by
  cases r with
  | nil => rfl
  | cons c r =>
    cases ht : trip (c :: r) with
    | some v =>
      rw [norm_trip ht]
      exact none_hex (.inl hexV_37)
    | none =>
      rw [norm_other ht]
      cases r with
      | nil => rfl
      | cons d r =>
        have hh := norm_head (d :: r)
        cases hn : normL 0 (d :: r) with
        | nil => rfl
        | cons e r' =>
          rw [hn] at hh
          simp at hh
          subst hh
          exact none_hex (hex_none h)
theorem norm_none' {c : Nat} {r : List Nat} (h : trip (c :: r) = none) : trip (c :: normL 0 r) = none := by
  by_cases hc : c = 37
  · subst hc
    exact norm_none h
  · exact trip_first hc _
theorem norm_len (l : List Nat) : (normL 0 l).length = l.length := by
  refine trip_ind (P := fun l => (normL 0 l).length = l.length) rfl ?_ ?_ l
  · intro a b r v ht ih
    rw [norm_trip ht]
    show (oneN v ++ normL 0 r).length = _
    rw [List.length_append, ih]
    simp [oneN]
    omega
  · intro c r ht ih
    rw [norm_other ht, List.length_cons, ih]
    rfl
theorem norm_norm (l : List Nat) : normL 0 (normL 0 l) = normL 0 l := by
  refine trip_ind (P := fun l => normL 0 (normL 0 l) = normL 0 l) rfl ?_ ?_ l
  · intro a b r v ht ih
    rw [norm_trip ht]
    show normL 0 (oneN v ++ normL 0 r) = oneN v ++ normL 0 r
    rw [norm_one (trip_lt ht), ih]
  · intro c r ht ih
    rw [norm_other ht, norm_other (norm_none' ht), ih]
theorem dec_norm (l : List Nat) : decL 0 (normL 0 l) = decL 0 l := by
  refine trip_ind (P := fun l => decL 0 (normL 0 l) = decL 0 l) rfl ?_ ?_ l
  · intro a b r v ht ih
    rw [norm_trip ht, dec_trip ht]
    show decL 0 (oneN v ++ normL 0 r) = (v :: (decL 0 r).1, (decL 0 r).2)
    rw [dec_one (trip_lt ht), ih]
  · intro c r ht ih
    rw [norm_other ht, dec_other (norm_none' ht), dec_other ht, ih]
theorem norm_enc : ∀ (l : List Nat), (∀ b ∈ l, b < 256) → normL 0 (encL false l) = encL false l
  | [], _ => rfl
  | c :: r, h => by
    have ih := norm_enc r fun x hx => h x (by simp [hx])
    rw [encL]
    by_cases hs : stayN false (c :: r) c = true
    · have hc : c ≠ 37 := by rintro rfl; simp [stayN, unres_37] at hs
      rw [if_pos hs, List.singleton_append, norm_other (trip_first hc _), ih]
    · rw [if_neg hs, norm_one (h c (by simp)), ih]

/-- Two texts. -/
theorem enc_join : ∀ (a b : List Nat), encL false (a ++ b) = encL false a ++ encL false b
  | [], _ => rfl
  | c :: r, b => by
    rw [List.cons_append, encL, encL, enc_join r b, List.append_assoc]
    simp [stayN]
theorem dec_join (b : List Nat) (a : List Nat) : (decL 0 a).2 = true → decL 0 (a ++ b) = ((decL 0 a).1 ++ (decL 0 b).1, (decL 0 b).2) := by
  refine trip_ind (P := fun a => (decL 0 a).2 = true → decL 0 (a ++ b) = ((decL 0 a).1 ++ (decL 0 b).1, (decL 0 b).2)) ?_ ?_ ?_ a
  · intro _; rfl
  · intro x y r v ht ih h
    obtain ⟨a', b', r', m, n, e, hx, hy, rfl⟩ := trip_cons ht
    injection e with _ e
    injection e with e1 e
    injection e with e2 e
    subst e1; subst e2; subst e
    rw [dec_trip ht] at h ⊢
    have hk := trip_hex hx hy (r ++ b)
    show decL 0 (37 :: x :: y :: (r ++ b)) = _
    rw [dec_trip hk]
    show (_ :: (decL 0 (r ++ b)).1, (decL 0 (r ++ b)).2) = _
    rw [ih h]
    rfl
  · intro c r ht ih h
    rw [dec_other ht] at h ⊢
    simp at h
    rw [List.cons_append, dec_other (trip_first h.2 _), ih h.1]
    simp [h.2]
end Go.Proofs.YtmondgamackcgaaDoor
