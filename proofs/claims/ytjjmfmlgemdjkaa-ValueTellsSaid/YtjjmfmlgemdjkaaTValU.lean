/- Plain: First, Begin and Valid of layer 1's reference, as value's print has them. -/
import Derived.Test.YtjjmfmlgemdjkaaTUtfN
import Derived.Test.YtjjmfmlgemdjkaaTValQ
import Derived.Test.YtjjmfmlgemdjkaaTPValx13
namespace Go.Proofs.Ytjjmfmlgemdjkaa.Val
open Go.RowKit Go.Proofs.Ytjjmfmlgemdjkaa Go.Proofs.Ytjjmfmlgemdjkaa.PVal Go.Proofs.YtjjmfmlgemdjkaaW.PrintWords Go.Proofs.YtjjmfmlgemdjkaaW.PrintLast Go.Proofs.YtjjmfmlgemdjkaaW.PrintMore

theorem wrap_id {x : Int} (h0 : -9223372036854775808 ≤ x) (h1 : x < 9223372036854775808) : wrap64 x = x := by unfold wrap64; omega

theorem mayI_ok {x : Int} (h : mayI x = true) : ∃ c : Nat, x = c ∧ okC c := by
  unfold mayI at h
  simp at h
  exact ⟨x.toNat, by omega, by unfold okC; omega⟩
theorem ok_mayI {c : Nat} (h : okC c) : mayI (c : Int) = true := by
  unfold mayI
  unfold okC at h
  simp
  omega
theorem may_ref (x : Int) : phalaroperef01_May.f x = some (mayI x) := by
  unfold phalaroperef01_May.f mayI
  by_cases h1 : x ≥ 0
  · by_cases h2 : x ≤ 1114111
    · by_cases h3 : x < 55296
      · rw [if_pos h1, if_pos h2, if_pos h3]; congr 1; rw [Bool.eq_iff_iff]; simp; omega
      · rw [if_pos h1, if_pos h2, if_neg h3]; congr 1; rw [Bool.eq_iff_iff]; simp; omega
    · rw [if_pos h1, if_neg h2]; simp; omega
  · rw [if_neg h1]; simp; omega
theorem tdiv_nat (c d : Nat) : Int.tdiv (c : Int) (d : Int) = ((c / d : Nat) : Int) := by
  rw [Int.tdiv_eq_ediv_of_nonneg (by omega)]; rfl
theorem tmod_nat (c d : Nat) : Int.tmod (c : Int) (d : Int) = ((c % d : Nat) : Int) := by
  rw [Int.tmod_eq_emod_of_nonneg (by omega)]; rfl
theorem tail_stop (c n : Nat) (hc : c ≤ 1114111) (k : Nat) : phalaroperef01_tail.l0 (k + 1) (c : Int) (n : Int) (n : Int) = some ((128 + c % 64 : Nat) : Int) := by
  rw [phalaroperef01_tail.l0, if_neg (by omega), show (64 : Int) = ((64 : Nat) : Int) from rfl, tmod_nat]
  congr 1
  unfold wrap64
  omega
theorem tail_step (c n i : Nat) (hc : c ≤ 1114111) (hi : i < n) (hn : n ≤ 3) (k : Nat) : phalaroperef01_tail.l0 (k + 1) (c : Int) (n : Int) (i : Int) = phalaroperef01_tail.l0 k ((c / 64 : Nat) : Int) (n : Int) ((i + 1 : Nat) : Int) := by
  rw [phalaroperef01_tail.l0, if_pos (by omega), show (64 : Int) = ((64 : Nat) : Int) from rfl, tdiv_nat, wrap_id (by omega) (by omega), wrap_id (by omega) (by omega)]
  rfl
theorem tail0 (c : Nat) (hc : c ≤ 1114111) (k : Nat) : phalaroperef01_tail.f (k + 4) (c : Int) 0 = some ((128 + c % 64 : Nat) : Int) := tail_stop c 0 hc (k + 3)
theorem tail1 (c : Nat) (hc : c ≤ 1114111) (k : Nat) : phalaroperef01_tail.f (k + 4) (c : Int) 1 = some ((128 + c / 64 % 64 : Nat) : Int) :=
  (tail_step c 1 0 hc (by omega) (by omega) (k + 3)).trans (tail_stop (c / 64) 1 (by omega) (k + 2))
theorem tail2 (c : Nat) (hc : c ≤ 1114111) (k : Nat) : phalaroperef01_tail.f (k + 4) (c : Int) 2 = some ((128 + c / 4096 % 64 : Nat) : Int) :=
  (tail_step c 2 0 hc (by omega) (by omega) (k + 3)).trans ((tail_step (c / 64) 2 1 (by omega) (by omega) (by omega) (k + 2)).trans ((tail_stop (c / 64 / 64) 2 (by omega) (k + 1)).trans (by congr 1; omega)))
theorem nats_nums (xs : List Int) : nats (strOfNums xs) = xs.map fun n => n.toNat % 256 := by
  unfold nats
  rw [strOfNums_data, List.map_map]
  refine List.map_congr_left fun x _ => ?_
  show (UInt8.ofNat x.toNat).toNat = _
  rw [UInt8.toNat_ofNat']
theorem one_f (c : Nat) (hc : okC c) (k : Nat) : ∃ s, phalaroperef01_One.f (k + 4) (c : Int) = some s ∧ nats s = encN c := by
  have hle : c ≤ 1114111 := by unfold okC at hc; omega
  unfold phalaroperef01_One.f
  rw [tail0 c hle, tail1 c hle, tail2 c hle]
  simp only [Option.bind_some]
  by_cases h1 : c < 128
  · rw [if_pos (by omega)]
    refine ⟨_, rfl, ?_⟩
    rw [nats_nums]
    unfold encN
    rw [if_pos h1]
    simp
    omega
  rw [if_neg (by omega)]
  by_cases h2 : c < 2048
  · rw [if_pos (by omega)]
    refine ⟨_, rfl, ?_⟩
    rw [nats_nums, show (64 : Int) = ((64 : Nat) : Int) from rfl, tdiv_nat, wrap_id (x := ((c / 64 : Nat) : Int)) (by omega) (by omega), wrap_id (by omega) (by omega)]
    unfold encN
    rw [if_neg h1, if_pos h2]
    simp
    omega
  rw [if_neg (by omega)]
  by_cases h3 : c < 65536
  · rw [if_pos (by omega)]
    refine ⟨_, rfl, ?_⟩
    rw [nats_nums, show (4096 : Int) = ((4096 : Nat) : Int) from rfl, tdiv_nat, wrap_id (x := ((c / 4096 : Nat) : Int)) (by omega) (by omega), wrap_id (by omega) (by omega)]
    unfold encN
    rw [if_neg h1, if_neg h2, if_pos h3]
    simp
    omega
  rw [if_neg (by omega)]
  refine ⟨_, rfl, ?_⟩
  rw [nats_nums, show (262144 : Int) = ((262144 : Nat) : Int) from rfl, tdiv_nat, wrap_id (x := ((c / 262144 : Nat) : Int)) (by omega) (by omega), wrap_id (by omega) (by omega)]
  unfold encN
  rw [if_neg h1, if_neg h2, if_neg h3]
  simp
  omega

def lead (b : Nat) : Nat := if 240 ≤ b then b - 240 else if 224 ≤ b then b - 224 else if 192 ≤ b then b - 192 else b
/-- The number that n bytes make. -/
def accN (l : List Nat) : Nat → Nat
  | 0 => 0
  | 1 => lead (l.getD 0 0)
  | n + 2 => 64 * accN l (n + 1) + l.getD (n + 1) 0 % 64
theorem acc_enc (c : Nat) (hc : okC c) (r : List Nat) : accN (encN c ++ r) (encN c).length = c := by
  unfold okC at hc
  unfold encN
  repeat' split
  all_goals simp [accN, lead]
  all_goals (try split) <;> (try split) <;> (try split) <;> omega
theorem get_lt {l : List Nat} (hb : ∀ b ∈ l, b < 256) (i : Nat) : l.getD i 0 < 256 := by
  rw [List.getD_eq_getElem?_getD]
  rcases Nat.lt_or_ge i l.length with h | h
  · rw [List.getElem?_eq_getElem h]
    exact hb _ (List.getElem_mem h)
  · rw [List.getElem?_eq_none h]
    decide
theorem acc_lt {l : List Nat} (hb : ∀ b ∈ l, b < 256) (i : Nat) (hi : i ≤ 4) : accN l i < 134217728 := by
  have h0 := get_lt hb 0
  have h1 : accN l 1 < 256 := by
    show lead (l.getD 0 0) < 256
    unfold lead
    repeat' split
    all_goals omega
  have h2 : accN l 2 < 16448 := by show 64 * accN l 1 + l.getD 1 0 % 64 < _; omega
  have h3 : accN l 3 < 1052736 := by show 64 * accN l 2 + l.getD 2 0 % 64 < _; omega
  have h4 : accN l 4 < 134217728 := by show 64 * accN l 3 + l.getD 3 0 % 64 < _; omega
  match i, hi with
  | 0, _ => show 0 < _; omega
  | 1, _ => omega
  | 2, _ => omega
  | 3, _ => omega
  | 4, _ => exact h4
theorem bt_nat (t : ByteArray) (i : Nat) : bt t (i : Int) = (((nats t).getD i 0 : Nat) : Int) := by
  unfold bt
  rw [Int.toNat_natCast]
  split
  · rename_i h
    rw [← nats_get]
    have h' : i < t.data.size := h
    have e : t.get! i = t.data[i] := by
      cases t
      unfold ByteArray.get!
      exact getElem!_pos _ i h'
    rw [e]
    rfl
  · rename_i h
    rw [List.getD_eq_getElem?_getD, List.getElem?_eq_none (by rw [nats_len]; omega)]
    rfl

/-- Whether the first n bytes are a character's. -/
def hit (l : List Nat) (n : Nat) : Prop := okC (accN l n) ∧ encN (accN l n) = l.take n

theorem ok_of_may {x : Nat} (h : mayI (x : Int) = true) : okC x := by
  obtain ⟨c, h1, h2⟩ := mayI_ok h
  rw [show x = c from by omega]
  exact h2
theorem first_j3 (t : ByteArray) (x n k : Nat) (hn : n ≤ t.size) (h4 : n ≤ 4) :
    (okC x ∧ encN x = (nats t).take n → phalaroperef01_First.j3 (k + 5) t (x : Int) (n : Int) = some ((x : Int), (n : Int))) ∧
    (¬ (okC x ∧ encN x = (nats t).take n) → phalaroperef01_First.j3 (k + 5) t (x : Int) (n : Int) = phalaroperef01_First.l0 (k + 4) t (x : Int) ((n + 1 : Nat) : Int)) := by
  have ew : wrap64 ((n : Int) + 1) = ((n + 1 : Nat) : Int) := by unfold wrap64; omega
  rw [phalaroperef01_First.j3, may_ref, Option.bind_some, ew]
  by_cases hm : mayI (x : Int) = true
  · have hok := ok_of_may hm
    obtain ⟨s, hs, hns⟩ := one_f x hok k
    rw [if_pos hm, hs, Option.bind_some, if_pos (by omega), if_pos (by omega), Int.toNat_natCast]
    have e : s.toList = (t.extract 0 n).toList ↔ encN x = (nats t).take n := by
      rw [toList_nats, nats_extract, List.drop_zero, Nat.sub_zero, hns]
    constructor
    · intro h
      rw [if_pos (e.2 h.2)]
    · intro h
      rw [if_neg fun hh => h ⟨hok, e.1 hh⟩]
  · rw [if_neg hm]
    exact ⟨fun h => absurd (ok_mayI h.1) hm, fun _ => rfl⟩

theorem first_j2 (t : ByteArray) (b x k : Nat) (hb : b < 256) (hx : x = if 192 ≤ b then b - 192 else b) :
    phalaroperef01_First.j2 (k + 1) t (x : Int) ((1 : Nat) : Int) (b : Int) = phalaroperef01_First.j3 k t ((lead b : Nat) : Int) ((1 : Nat) : Int) := by
  rw [phalaroperef01_First.j2]
  unfold lead
  by_cases h1 : 240 ≤ b
  · rw [if_pos (by omega), if_pos (by omega), if_pos h1, wrap_id (by omega) (by omega)]
    congr 1
    omega
  · rw [if_neg h1]
    by_cases h2 : 224 ≤ b
    · rw [if_pos (by omega), if_neg (by omega), if_pos h2, wrap_id (by omega) (by omega)]
      congr 1
      omega
    · rw [if_neg (by omega), if_neg (by omega), if_neg h2, hx]

theorem first_step (t : ByteArray) (i k : Nat) (h4 : i < 4) (hn : i < t.size) :
    ∃ j, k + 10 ≤ j ∧ (hit (nats t) (i + 1) → phalaroperef01_First.l0 (k + 14) t ((accN (nats t) i : Nat) : Int) ((i + 1 : Nat) : Int) = some (((accN (nats t) (i + 1) : Nat) : Int), ((i + 1 : Nat) : Int))) ∧
      (¬ hit (nats t) (i + 1) → phalaroperef01_First.l0 (k + 14) t ((accN (nats t) i : Nat) : Int) ((i + 1 : Nat) : Int) = phalaroperef01_First.l0 j t ((accN (nats t) (i + 1) : Nat) : Int) ((i + 2 : Nat) : Int)) := by
  have hb := get_lt (nats_byte t) i
  have hlt := acc_lt (nats_byte t) i (by omega)
  have ew : wrap64 (((i + 1 : Nat) : Int) - 1) = (i : Int) := by unfold wrap64; omega
  have eb : wrap64 (bt t (i : Int)) = (((nats t).getD i 0 : Nat) : Int) := by rw [bt_nat, wrap_id (by omega) (by omega)]
  rw [phalaroperef01_First.l0, if_pos (by omega), decide_eq_true (by omega), phalaroperef01_First.j1, if_pos rfl, ew, if_pos (by omega), if_pos (by omega), eb]
  match i, h4, hn, hb, hlt with
  | 0, h4, hn, hb, hlt =>
    rw [if_pos (by rfl)]
    refine ⟨k + 10, by omega, ?_⟩
    have h := first_j3 t (accN (nats t) 1) 1 (k + 6) (by omega) (by omega)
    have ej : ∀ x : Nat, x = (if 192 ≤ (nats t).getD 0 0 then (nats t).getD 0 0 - 192 else (nats t).getD 0 0) → phalaroperef01_First.j2 (k + 12) t (x : Int) ((0 + 1 : Nat) : Int) (((nats t).getD 0 0 : Nat) : Int) = phalaroperef01_First.j3 (k + 11) t ((accN (nats t) 1 : Nat) : Int) ((1 : Nat) : Int) := fun x hx => first_j2 t _ x (k + 11) hb hx
    by_cases h1 : 192 ≤ (nats t).getD 0 0
    · rw [if_pos (by omega), wrap_id (by omega) (by omega)]
      have e1 := ej ((nats t).getD 0 0 - 192) (by rw [if_pos h1])
      rw [show (((nats t).getD 0 0 : Nat) : Int) - 192 = (((nats t).getD 0 0 - 192 : Nat) : Int) from by omega, e1]
      exact h
    · rw [if_neg (by omega), ej ((nats t).getD 0 0) (by rw [if_neg h1])]
      exact h
  | i + 1, h4, hn, hb, hlt =>
    rw [if_neg (by omega)]
    refine ⟨k + 11, by omega, ?_⟩
    have h := first_j3 t (accN (nats t) (i + 2)) (i + 2) (k + 7) (by omega) (by omega)
    have ea : wrap64 (wrap64 (64 * ((accN (nats t) (i + 1) : Nat) : Int)) + Int.tmod (((nats t).getD (i + 1) 0 : Nat) : Int) 64) = ((accN (nats t) (i + 2) : Nat) : Int) := by
      rw [show (64 : Int) = ((64 : Nat) : Int) from rfl, tmod_nat, wrap_id (x := ((64 : Nat) : Int) * _) (by omega) (by omega), wrap_id (by omega) (by omega)]
      show _ = ((64 * accN (nats t) (i + 1) + (nats t).getD (i + 1) 0 % 64 : Nat) : Int)
      omega
    rw [ea]
    exact h

theorem first_none (t : ByteArray) (k : Nat) (x n : Int) (h : ¬ (n ≤ 4 ∧ n ≤ (t.size : Int))) : phalaroperef01_First.l0 (k + 2) t x n = some (0, 0) := by
  rw [phalaroperef01_First.l0]
  by_cases h1 : n ≤ 4
  · rw [if_pos h1, decide_eq_false (by omega), phalaroperef01_First.j1, if_neg (by decide)]
  · rw [if_neg h1, phalaroperef01_First.j1, if_neg (by decide)]

theorem first_loop (t : ByteArray) (R : Int × Int) (hR : (∀ i, 1 ≤ i → i ≤ 4 → i ≤ t.size → ¬ hit (nats t) i) → R = (0, 0))
    (hR2 : ∀ i, 1 ≤ i → i ≤ 4 → i ≤ t.size → hit (nats t) i → R = (((accN (nats t) i : Nat) : Int), (i : Int))) : ∀ (d i k : Nat), 4 - i = d → i ≤ 4 → 4 * d + 14 ≤ k → (∀ j, 1 ≤ j → j ≤ i → ¬ hit (nats t) j) →
      phalaroperef01_First.l0 k t ((accN (nats t) i : Nat) : Int) ((i + 1 : Nat) : Int) = some R
  | 0, i, k, hd, hi, hk, hno => by
    obtain ⟨k, rfl⟩ : ∃ m, k = m + 2 := ⟨k - 2, by omega⟩
    rw [first_none t k _ _ (by omega), hR fun j h1 h2 _ => hno j h1 (by omega)]
  | d + 1, i, k, hd, hi, hk, hno => by
    obtain ⟨k, rfl⟩ : ∃ m, k = m + 14 := ⟨k - 14, by omega⟩
    by_cases hn : i < t.size
    · obtain ⟨j, hj, h1, h2⟩ := first_step t i k (by omega) hn
      by_cases hh : hit (nats t) (i + 1)
      · rw [h1 hh, hR2 (i + 1) (by omega) (by omega) (by omega) hh]
      · rw [h2 hh]
        refine first_loop t R hR hR2 d (i + 1) j (by omega) (by omega) (by omega) fun m m1 m2 => ?_
        rcases Nat.lt_or_ge m (i + 1) with h | h
        · exact hno m m1 (by omega)
        · rw [show m = i + 1 from by omega]; exact hh
    · rw [first_none t (k + 12) _ _ (by omega), hR fun j h1 h2 h3 => hno j h1 (by omega)]

theorem hit_split {l : List Nat} {n : Nat} (h : hit l n) : l = encN (accN l n) ++ l.drop n := by
  rw [h.2, List.take_append_drop]
theorem first_no (t : ByteArray) (h : nats t = [] ∨ stopL (nats t)) (k : Nat) (hk : 30 ≤ k) : phalaroperef01_First.f k t = some (0, 0) := by
  have hno : ∀ i, 1 ≤ i → i ≤ t.size → ¬ hit (nats t) i := by
    intro i h1 h2 hh
    have hs := hit_split hh
    rcases h with h | h
    · have := congrArg List.length h
      rw [nats_len, List.length_nil] at this
      omega
    · rw [hs] at h
      exact stop_enc _ hh.1 _ h
  exact first_loop t (0, 0) (fun _ => rfl) (fun i h1 _ h3 hh => absurd hh (hno i h1 h3)) 4 0 k rfl (by omega) (by omega) (fun j h1 h2 => by omega)
theorem first_yes (t : ByteArray) (h0 : nats t ≠ []) (h : ¬ stopL (nats t)) (k : Nat) (hk : 30 ≤ k) : phalaroperef01_First.f k t = some ((((dec (nats t)).1 : Nat) : Int), (((dec (nats t)).2 : Nat) : Int)) := by
  obtain ⟨hc, hs, hm⟩ := enc_dec (nats t) h0 (nats_byte t) h
  have hl := encN_len (dec (nats t)).1
  rw [← hm] at hl
  have hsz : (dec (nats t)).2 ≤ t.size := by
    have := congrArg List.length hs
    rw [List.length_append, ← hm, List.length_drop, nats_len] at this
    omega
  have hacc : accN (nats t) (dec (nats t)).2 = (dec (nats t)).1 := by
    have := acc_enc (dec (nats t)).1 hc ((nats t).drop (dec (nats t)).2)
    rw [← hs, ← hm] at this
    exact this
  have hhit : hit (nats t) (dec (nats t)).2 := by
    refine ⟨by rw [hacc]; exact hc, ?_⟩
    rw [hacc]
    have := congrArg (List.take (dec (nats t)).2) hs
    rw [List.take_left' hm.symm] at this
    exact this.symm
  refine first_loop t _ (fun hno => absurd hhit (hno _ hl.1 hl.2 hsz)) (fun i h1 h2 h3 hh => ?_) 4 0 k rfl (by omega) (by omega) (fun j h1 h2 => by omega)
  have e1 := (enc_inj hc hh.1 (hs.symm.trans (hit_split hh))).1
  have e2 : (dec (nats t)).2 = i := by
    rw [hm, e1, hh.2, List.length_take, nats_len]
    omega
  rw [e1, e2]

theorem begin_loop (s : ByteArray) (hs : s.size ≤ 2000) : ∀ (b p k : Nat) (acc : List Int), s.size - p ≤ b → p ≤ s.size → b + 45 ≤ k → acc.length ≤ p →
    phalaroperef01_Begin.l0 k s acc (p : Int) = some (acc ++ (runU s b p).1.map (fun (c : Nat) => (c : Int)), (((runU s b p).2 : Nat) : Int))
  | 0, p, k, acc, hb, hp, hk, ha => by
    obtain ⟨k, rfl⟩ : ∃ m, k = m + 1 := ⟨k - 1, by omega⟩
    obtain rfl : p = s.size := by omega
    rw [phalaroperef01_Begin.l0, if_neg (by omega)]
    simp [runU]
  | b + 1, p, k, acc, hb, hp, hk, ha => by
    obtain ⟨k, rfl⟩ : ∃ m, k = m + 1 := ⟨k - 1, by omega⟩
    rw [phalaroperef01_Begin.l0]
    by_cases hlt : p < s.size
    · have hn : nats (s.extract p s.size) = (nats s).drop p := by
        rw [nats_extract]
        exact List.take_of_length_le (by rw [List.length_drop, nats_len]; exact Nat.le_refl _)
      rw [if_pos (by omega), if_pos (by omega), if_pos (by omega), Int.toNat_natCast]
      by_cases hst : stopB s p = true
      · rw [first_no _ (.inr (by rw [hn]; exact (stop_stop s p).1 hst)) k (by omega), Option.bind_some, if_pos rfl, runU_stop s b p hlt hst]
        simp
      · have hne : nats (s.extract p s.size) ≠ [] := by
          rw [hn]
          intro h
          rw [List.drop_eq_nil_iff, nats_len] at h
          omega
        rw [first_yes _ hne (by rw [hn]; exact fun h => hst ((stop_stop s p).2 h)) k (by omega), Option.bind_some, hn, ← decode_dec]
        have hw := width_pos s p hlt
        have hst' : stopB s p = false := by simpa using hst
        have hle : (Utf8.decode s p).2 ≤ s.size - p := by
          obtain ⟨h1, h2, h3⟩ := enc_dec ((nats s).drop p) (by rw [← hn]; exact hne) (fun x hx => nats_byte s x (List.mem_of_mem_drop hx)) (fun h => hst ((stop_stop s p).2 h))
          rw [← decode_dec] at h2 h3
          have := congrArg List.length h2
          rw [List.length_append, ← h3, List.length_drop, List.length_drop, nats_len] at this
          omega
        rw [if_neg (by simp only; omega), if_pos (by omega), wrap_id (by simp only; omega) (by simp only; omega)]
        have ih := begin_loop s hs b (p + (Utf8.decode s p).2) k (acc ++ [(((Utf8.decode s p).1 : Nat) : Int)]) (by omega) (by omega) (by omega) (by rw [List.length_append]; simp; omega)
        rw [Int.natCast_add] at ih
        rw [ih, runU_go s b p hlt hst']
        simp
    · rw [if_neg (by omega), runU_end s (b + 1) p hlt]
      obtain rfl : p = s.size := by omega
      simp
theorem begin_ref (s : ByteArray) (hs : s.size ≤ 200) (k : Nat) (hk : 300 ≤ k) : phalaroperef01_Begin.f k s = some ((charsU s).map (fun (c : Nat) => (c : Int)), ((badU s : Nat) : Int)) :=
  begin_loop s (by omega) s.size 0 k [] (by omega) (by omega) (by omega) (by simp)
theorem valid_ref1 (s : ByteArray) (hs : s.size ≤ 200) (k : Nat) (hk : 300 ≤ k) : phalaroperef01_Valid.f k s = some (validU s) := by
  unfold phalaroperef01_Valid.f validU
  rw [begin_ref s hs k hk, Option.bind_some]
  refine congrArg some ?_
  by_cases h : badU s = s.size
  · rw [decide_eq_true h, beq_iff_eq]; simp only; omega
  · rw [decide_eq_false h, beq_eq_false_iff_ne]; simp only; omega
end Go.Proofs.Ytjjmfmlgemdjkaa.Val

