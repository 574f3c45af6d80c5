/- Plain: what the printed functions beneath ucs tell (printed by gen_ucs.py out of UtfO, UtfP, UtfQ). -/
import Derived.Test.YtjjmfmlgemdjkaaPUcsx1
import Derived.Test.YtjjmfmlgemdjkaaPUcsx2
import Derived.Test.YtjjmfmlgemdjkaaPUcsx3
import Derived.Test.YtjjmfmlgemdjkaaPUcsx4
import Derived.Test.YtjjmfmlgemdjkaaPUcsx5
import Derived.Test.YtjjmfmlgemdjkaaPUcsx6
import Derived.Test.YtjjmfmlgemdjkaaPUcsx7
import Derived.Test.YtjjmfmlgemdjkaaUtfN
namespace Go.Proofs.Ytjjmfmlgemdjkaa.Pure
open Go.RowKit Go.Proofs.Ytjjmfmlgemdjkaa.PUcs Go.Proofs.YtjjmfmlgemdjkaaW.PrintWords Go.Proofs.YtjjmfmlgemdjkaaW.PrintLast Go.Proofs.YtjjmfmlgemdjkaaW.PrintMore


theorem prefx (s : ByteArray) (m : Int) (h : s.size ≤ 1000000) : utf_Prefix.f s m = some (prefU s m) := by unfold utf_Prefix.f; rw [if_pos h]
theorem wrap_id {x : Int} (h0 : -9223372036854775808 ≤ x) (h1 : x < 9223372036854775808) : wrap64 x = x := by unfold wrap64; omega

theorem run_join {a b : ByteArray} (h : badU a = a.size) : charsU (a ++ b) = charsU a ++ charsU b ∧ badU (a ++ b) = a.size + badU b := by
  have ha := run_of a
  have hb := run_of b
  rw [h, List.drop_eq_nil_of_le (by rw [nats_len]; exact Nat.le_refl _)] at ha
  have hr : Run (nats (a ++ b)) (charsU a ++ charsU b) ((nats b).drop (badU b)) := by
    refine ⟨?_, ?_, hb.2.2⟩
    · rw [nats_append, List.flatMap_append, List.append_assoc, ← hb.1]
      rw [← show nats a = (charsU a).flatMap encN from by simpa using ha.1]
    · intro c hc
      rcases List.mem_append.1 hc with hc | hc
      · exact ha.2.1 c hc
      · exact hb.2.1 c hc
  obtain ⟨h1, h2⟩ := of_run hr
  refine ⟨h1, ?_⟩
  have := badU_le b
  rw [List.length_drop, nats_len, ByteArray.size_append] at h2
  omega

theorem flat_nil {ds : List Nat} (h : ds.flatMap encN = []) : ds = [] := by
  cases ds with
  | nil => rfl
  | cons d ds =>
    rw [List.flatMap_cons, List.append_eq_nil_iff] at h
    exact absurd h.1 (encN_ne d)

theorem cut_nats (t : ByteArray) (most : Int) : ∀ (b p n : Nat) (ds : List Nat), (∀ c ∈ ds, okC c) → (nats t).drop p = ds.flatMap encN → p ≤ t.size → t.size - p ≤ b →
    (nats t).take (cutU t most b p n) = (nats t).take p ++ (ds.take (most.toNat - n)).flatMap encN
  | 0, p, n, ds, hok, hd, hp, hb => by
    obtain rfl : p = t.size := by omega
    rw [List.drop_eq_nil_of_le (by rw [nats_len]; exact Nat.le_refl _)] at hd
    rw [flat_nil hd.symm]
    simp [cutU]
  | b + 1, p, n, ds, hok, hd, hp, hb => by
    unfold cutU
    by_cases hlt : p < t.size
    · rw [if_pos hlt]
      by_cases hm : most ≤ (n : Int)
      · rw [if_pos hm, show most.toNat - n = 0 from by omega]
        simp
      · rw [if_neg hm]
        cases ds with
        | nil =>
          have := congrArg List.length hd
          rw [List.length_drop, nats_len] at this
          simp at this
          omega
        | cons d ds =>
          have hdk := hok d (by simp)
          have hdec : Utf8.decode t p = (d, (encN d).length) := by
            rw [decode_dec, hd, List.flatMap_cons, dec_enc d hdk]
          rw [hdec]
          have hpos := (encN_len d).1
          have hl : (nats t).drop p = encN d ++ ds.flatMap encN := by rw [hd]; rfl
          have hlen : (encN d).length ≤ t.size - p := by
            have := congrArg List.length hl
            rw [List.length_drop, nats_len, List.length_append] at this
            omega
          have hd2 : (nats t).drop (p + (encN d).length) = ds.flatMap encN := by
            rw [← List.drop_drop, hl, List.drop_left]
          have ih := cut_nats t most b (p + (encN d).length) (n + 1) ds (fun c hc => hok c (by simp [hc])) hd2 (by omega) (by omega)
          rw [ih, show most.toNat - n = (most.toNat - (n + 1)) + 1 from by omega, List.take_succ_cons, List.flatMap_cons, ← List.append_assoc]
          congr 1
          rw [List.take_add, hl, List.take_left]
    · rw [if_neg hlt]
      obtain rfl : p = t.size := by omega
      rw [List.drop_eq_nil_of_le (by rw [nats_len]; exact Nat.le_refl _)] at hd
      rw [flat_nil hd.symm]
      simp

theorem pref_nats (s : ByteArray) (m : Int) : nats (prefU s m) = ((charsU s).take m.toNat).flatMap encN := by
  unfold prefU
  rw [nats_extract, List.drop_zero, Nat.sub_zero]
  have h := begin_nats s
  generalize s.extract 0 (badU s) = t at h
  rw [cut_nats t m t.size 0 0 (charsU s) (chars_ok s) (by rw [List.drop_zero, h]) (by omega) (by omega)]
  simp
theorem pref_run (s : ByteArray) (m : Int) : charsU (prefU s m) = (charsU s).take m.toNat ∧ badU (prefU s m) = (prefU s m).size :=
  run_valid (pref_nats s m) fun c hc => chars_ok s c (List.mem_of_mem_take hc)
theorem pref_of (s : ByteArray) (m : Int) : ∃ q, nats s = nats (prefU s m) ++ q := by
  refine ⟨((charsU s).drop m.toNat).flatMap encN ++ (nats s).drop (badU s), ?_⟩
  rw [pref_nats, ← List.append_assoc, ← List.flatMap_append, List.take_append_drop]
  exact (run_of s).1
theorem pref_size (s : ByteArray) (m : Int) : (prefU s m).size ≤ s.size := by
  obtain ⟨q, h⟩ := pref_of s m
  have := congrArg List.length h
  rw [List.length_append, nats_len, nats_len] at this
  omega

theorem mayI_ok {x : Int} (h : mayI x = true) : ∃ c : Nat, x = c ∧ okC c := by
  unfold mayI at h
  simp at h
  exact ⟨x.toNat, by omega, by unfold okC; omega⟩
theorem ok_mayI {c : Nat} (h : okC c) : mayI (c : Int) = true := by
  unfold mayI
  unfold okC at h
  simp
  omega
theorem text_nats {l : List Int} (h : l.all mayI = true) : nats (Go.runesBytes l) = (l.map Int.toNat).flatMap encN := by
  unfold Go.runesBytes
  rw [nats_runes l _ fun x hx => mayI_ok (List.all_eq_true.1 h x hx), nats_empty, List.nil_append]
theorem text_run {l : List Int} (h : l.all mayI = true) : charsU (Go.runesBytes l) = l.map Int.toNat ∧ badU (Go.runesBytes l) = (Go.runesBytes l).size :=
  run_valid (text_nats h) fun c hc => by
    obtain ⟨x, hx, rfl⟩ := List.mem_map.1 hc
    obtain ⟨d, rfl, hd⟩ := mayI_ok (List.all_eq_true.1 h x hx)
    rw [Int.toNat_natCast]
    exact hd
theorem flat_le : ∀ (l : List Nat), (l.flatMap encN).length ≤ 4 * l.length
  | [] => by simp
  | c :: l => by
    have := flat_le l
    have := (encN_len c).2
    rw [List.flatMap_cons, List.length_append, List.length_cons]
    omega
theorem runes_size {l : List Int} (h : l.all mayI = true) : (Go.runesBytes l).size ≤ 4 * l.length := by
  have := flat_le (l.map Int.toNat)
  rw [← text_nats h, nats_len, List.length_map] at this
  exact this

theorem may_ref (x : Int) : phalaroperef01_May.f x = some (mayI x) := by
  unfold phalaroperef01_May.f mayI
  by_cases h1 : x ≥ 0
  · by_cases h2 : x ≤ 1114111
    · by_cases h3 : x < 55296
      · rw [if_pos h1, if_pos h2, if_pos h3]; congr 1; rw [Bool.eq_iff_iff]; simp; omega
      · rw [if_pos h1, if_pos h2, if_neg h3]; congr 1; rw [Bool.eq_iff_iff]; simp; omega
    · rw [if_pos h1, if_neg h2]; simp; omega
  · rw [if_neg h1]; simp; omega
theorem tdiv_nat (c d : Nat) : Int.tdiv (c : Int) (d : Int) = ((c / d : Nat) : Int) := by
  rw [Int.tdiv_eq_ediv_of_nonneg (by omega)]; rfl
theorem tmod_nat (c d : Nat) : Int.tmod (c : Int) (d : Int) = ((c % d : Nat) : Int) := by
  rw [Int.tmod_eq_emod_of_nonneg (by omega)]; rfl
theorem tail_stop (c n : Nat) (hc : c ≤ 1114111) (k : Nat) : phalaroperef01_tail.l0 (k + 1) (c : Int) (n : Int) (n : Int) = some ((128 + c % 64 : Nat) : Int) := by
  rw [phalaroperef01_tail.l0, if_neg (by omega), show (64 : Int) = ((64 : Nat) : Int) from rfl, tmod_nat]
  congr 1
  unfold wrap64
  omega
theorem tail_step (c n i : Nat) (hc : c ≤ 1114111) (hi : i < n) (hn : n ≤ 3) (k : Nat) : phalaroperef01_tail.l0 (k + 1) (c : Int) (n : Int) (i : Int) = phalaroperef01_tail.l0 k ((c / 64 : Nat) : Int) (n : Int) ((i + 1 : Nat) : Int) := by
  rw [phalaroperef01_tail.l0, if_pos (by omega), show (64 : Int) = ((64 : Nat) : Int) from rfl, tdiv_nat, wrap_id (by omega) (by omega), wrap_id (by omega) (by omega)]
  rfl
theorem tail0 (c : Nat) (hc : c ≤ 1114111) (k : Nat) : phalaroperef01_tail.f (k + 4) (c : Int) 0 = some ((128 + c % 64 : Nat) : Int) := tail_stop c 0 hc (k + 3)
theorem tail1 (c : Nat) (hc : c ≤ 1114111) (k : Nat) : phalaroperef01_tail.f (k + 4) (c : Int) 1 = some ((128 + c / 64 % 64 : Nat) : Int) :=
  (tail_step c 1 0 hc (by omega) (by omega) (k + 3)).trans (tail_stop (c / 64) 1 (by omega) (k + 2))
theorem tail2 (c : Nat) (hc : c ≤ 1114111) (k : Nat) : phalaroperef01_tail.f (k + 4) (c : Int) 2 = some ((128 + c / 4096 % 64 : Nat) : Int) :=
  (tail_step c 2 0 hc (by omega) (by omega) (k + 3)).trans ((tail_step (c / 64) 2 1 (by omega) (by omega) (by omega) (k + 2)).trans ((tail_stop (c / 64 / 64) 2 (by omega) (k + 1)).trans (by congr 1; omega)))
theorem nats_nums (xs : List Int) : nats (strOfNums xs) = xs.map fun n => n.toNat % 256 := by
  unfold nats
  rw [strOfNums_data, List.map_map]
  refine List.map_congr_left fun x _ => ?_
  show (UInt8.ofNat x.toNat).toNat = _
  rw [UInt8.toNat_ofNat']
theorem one_f (c : Nat) (hc : okC c) (k : Nat) : ∃ s, phalaroperef01_One.f (k + 4) (c : Int) = some s ∧ nats s = encN c := by
  have hle : c ≤ 1114111 := by unfold okC at hc; omega
  unfold phalaroperef01_One.f
  rw [tail0 c hle, tail1 c hle, tail2 c hle]
  simp only [Option.bind_some]
  by_cases h1 : c < 128
  · rw [if_pos (by omega)]
    refine ⟨_, rfl, ?_⟩
    rw [nats_nums]
    unfold encN
    rw [if_pos h1]
    simp
    omega
  rw [if_neg (by omega)]
  by_cases h2 : c < 2048
  · rw [if_pos (by omega)]
    refine ⟨_, rfl, ?_⟩
    rw [nats_nums, show (64 : Int) = ((64 : Nat) : Int) from rfl, tdiv_nat, wrap_id (x := ((c / 64 : Nat) : Int)) (by omega) (by omega), wrap_id (by omega) (by omega)]
    unfold encN
    rw [if_neg h1, if_pos h2]
    simp
    omega
  rw [if_neg (by omega)]
  by_cases h3 : c < 65536
  · rw [if_pos (by omega)]
    refine ⟨_, rfl, ?_⟩
    rw [nats_nums, show (4096 : Int) = ((4096 : Nat) : Int) from rfl, tdiv_nat, wrap_id (x := ((c / 4096 : Nat) : Int)) (by omega) (by omega), wrap_id (by omega) (by omega)]
    unfold encN
    rw [if_neg h1, if_neg h2, if_pos h3]
    simp
    omega
  rw [if_neg (by omega)]
  refine ⟨_, rfl, ?_⟩
  rw [nats_nums, show (262144 : Int) = ((262144 : Nat) : Int) from rfl, tdiv_nat, wrap_id (x := ((c / 262144 : Nat) : Int)) (by omega) (by omega), wrap_id (by omega) (by omega)]
  unfold encN
  rw [if_neg h1, if_neg h2, if_neg h3]
  simp
  omega

theorem rd_get (l : List Int) (i : Nat) (h : i < l.length) : rd l (i : Int) = l[i] := by
  unfold rd
  rw [Int.toNat_natCast, List.getD_eq_getElem?_getD, List.getElem?_eq_getElem h]
  rfl
theorem flat_take (l : List Int) (i : Nat) (h : i < l.length) : ((l.take (i + 1)).map Int.toNat).flatMap encN = ((l.take i).map Int.toNat).flatMap encN ++ encN l[i].toNat := by
  rw [List.take_succ_eq_append_getElem h, List.map_append, List.flatMap_append]
  simp

def lead (b : Nat) : Nat := if 240 ≤ b then b - 240 else if 224 ≤ b then b - 224 else if 192 ≤ b then b - 192 else b
/-- The number that n bytes make. -/
def accN (l : List Nat) : Nat → Nat
  | 0 => 0
  | 1 => lead (l.getD 0 0)
  | n + 2 => 64 * accN l (n + 1) + l.getD (n + 1) 0 % 64
theorem acc_enc (c : Nat) (hc : okC c) (r : List Nat) : accN (encN c ++ r) (encN c).length = c := by
  unfold okC at hc
  unfold encN
  repeat' split
  all_goals simp [accN, lead]
  all_goals (try split) <;> (try split) <;> (try split) <;> omega
theorem get_lt {l : List Nat} (hb : ∀ b ∈ l, b < 256) (i : Nat) : l.getD i 0 < 256 := by
  rw [List.getD_eq_getElem?_getD]
  rcases Nat.lt_or_ge i l.length with h | h
  · rw [List.getElem?_eq_getElem h]
    exact hb _ (List.getElem_mem h)
  · rw [List.getElem?_eq_none h]
    decide
theorem acc_lt {l : List Nat} (hb : ∀ b ∈ l, b < 256) (i : Nat) (hi : i ≤ 4) : accN l i < 134217728 := by
  have h0 := get_lt hb 0
  have h1 : accN l 1 < 256 := by
    show lead (l.getD 0 0) < 256
    unfold lead
    repeat' split
    all_goals omega
  have h2 : accN l 2 < 16448 := by show 64 * accN l 1 + l.getD 1 0 % 64 < _; omega
  have h3 : accN l 3 < 1052736 := by show 64 * accN l 2 + l.getD 2 0 % 64 < _; omega
  have h4 : accN l 4 < 134217728 := by show 64 * accN l 3 + l.getD 3 0 % 64 < _; omega
  match i, hi with
  | 0, _ => show 0 < _; omega
  | 1, _ => omega
  | 2, _ => omega
  | 3, _ => omega
  | 4, _ => exact h4
theorem bt_nat (t : ByteArray) (i : Nat) : bt t (i : Int) = (((nats t).getD i 0 : Nat) : Int) := by
  unfold bt
  rw [Int.toNat_natCast]
  split
  · rename_i h
    rw [← nats_get]
    have h' : i < t.data.size := h
    have e : t.get! i = t.data[i] := by
      cases t
      unfold ByteArray.get!
      exact getElem!_pos _ i h'
    rw [e]
    rfl
  · rename_i h
    rw [List.getD_eq_getElem?_getD, List.getElem?_eq_none (by rw [nats_len]; omega)]
    rfl

/-- Whether the first n bytes are a character's. -/
def hit (l : List Nat) (n : Nat) : Prop := okC (accN l n) ∧ encN (accN l n) = l.take n

theorem ok_of_may {x : Nat} (h : mayI (x : Int) = true) : okC x := by
  obtain ⟨c, h1, h2⟩ := mayI_ok h
  rw [show x = c from by omega]
  exact h2
theorem first_j3 (t : ByteArray) (x n k : Nat) (hn : n ≤ t.size) (h4 : n ≤ 4) :
    (okC x ∧ encN x = (nats t).take n → phalaroperef01_First.j3 (k + 5) t (x : Int) (n : Int) = some ((x : Int), (n : Int))) ∧
    (¬ (okC x ∧ encN x = (nats t).take n) → phalaroperef01_First.j3 (k + 5) t (x : Int) (n : Int) = phalaroperef01_First.l0 (k + 4) t (x : Int) ((n + 1 : Nat) : Int)) := by
  have ew : wrap64 ((n : Int) + 1) = ((n + 1 : Nat) : Int) := by unfold wrap64; omega
  rw [phalaroperef01_First.j3, may_ref, Option.bind_some, ew]
  by_cases hm : mayI (x : Int) = true
  · have hok := ok_of_may hm
    obtain ⟨s, hs, hns⟩ := one_f x hok k
    rw [if_pos hm, hs, Option.bind_some, if_pos (by omega), if_pos (by omega), Int.toNat_natCast]
    have e : s.toList = (t.extract 0 n).toList ↔ encN x = (nats t).take n := by
      rw [toList_nats, nats_extract, List.drop_zero, Nat.sub_zero, hns]
    constructor
    · intro h
      rw [if_pos (e.2 h.2)]
    · intro h
      rw [if_neg fun hh => h ⟨hok, e.1 hh⟩]
  · rw [if_neg hm]
    exact ⟨fun h => absurd (ok_mayI h.1) hm, fun _ => rfl⟩

theorem first_j2 (t : ByteArray) (b x k : Nat) (hb : b < 256) (hx : x = if 192 ≤ b then b - 192 else b) :
    phalaroperef01_First.j2 (k + 1) t (x : Int) ((1 : Nat) : Int) (b : Int) = phalaroperef01_First.j3 k t ((lead b : Nat) : Int) ((1 : Nat) : Int) := by
  rw [phalaroperef01_First.j2]
  unfold lead
  by_cases h1 : 240 ≤ b
  · rw [if_pos (by omega), if_pos (by omega), if_pos h1, wrap_id (by omega) (by omega)]
    congr 1
    omega
  · rw [if_neg h1]
    by_cases h2 : 224 ≤ b
    · rw [if_pos (by omega), if_neg (by omega), if_pos h2, wrap_id (by omega) (by omega)]
      congr 1
      omega
    · rw [if_neg (by omega), if_neg (by omega), if_neg h2, hx]

theorem first_step (t : ByteArray) (i k : Nat) (h4 : i < 4) (hn : i < t.size) :
    ∃ j, k + 10 ≤ j ∧ (hit (nats t) (i + 1) → phalaroperef01_First.l0 (k + 14) t ((accN (nats t) i : Nat) : Int) ((i + 1 : Nat) : Int) = some (((accN (nats t) (i + 1) : Nat) : Int), ((i + 1 : Nat) : Int))) ∧
      (¬ hit (nats t) (i + 1) → phalaroperef01_First.l0 (k + 14) t ((accN (nats t) i : Nat) : Int) ((i + 1 : Nat) : Int) = phalaroperef01_First.l0 j t ((accN (nats t) (i + 1) : Nat) : Int) ((i + 2 : Nat) : Int)) := by
  have hb := get_lt (nats_byte t) i
  have hlt := acc_lt (nats_byte t) i (by omega)
  have ew : wrap64 (((i + 1 : Nat) : Int) - 1) = (i : Int) := by unfold wrap64; omega
  have eb : wrap64 (bt t (i : Int)) = (((nats t).getD i 0 : Nat) : Int) := by rw [bt_nat, wrap_id (by omega) (by omega)]
  rw [phalaroperef01_First.l0, if_pos (by omega), decide_eq_true (by omega), phalaroperef01_First.j1, if_pos rfl, ew, if_pos (by omega), if_pos (by omega), eb]
  match i, h4, hn, hb, hlt with
  | 0, h4, hn, hb, hlt =>
    rw [if_pos (by rfl)]
    refine ⟨k + 10, by omega, ?_⟩
    have h := first_j3 t (accN (nats t) 1) 1 (k + 6) (by omega) (by omega)
    have ej : ∀ x : Nat, x = (if 192 ≤ (nats t).getD 0 0 then (nats t).getD 0 0 - 192 else (nats t).getD 0 0) → phalaroperef01_First.j2 (k + 12) t (x : Int) ((0 + 1 : Nat) : Int) (((nats t).getD 0 0 : Nat) : Int) = phalaroperef01_First.j3 (k + 11) t ((accN (nats t) 1 : Nat) : Int) ((1 : Nat) : Int) := fun x hx => first_j2 t _ x (k + 11) hb hx
    by_cases h1 : 192 ≤ (nats t).getD 0 0
    · rw [if_pos (by omega), wrap_id (by omega) (by omega)]
      have e1 := ej ((nats t).getD 0 0 - 192) (by rw [if_pos h1])
      rw [show (((nats t).getD 0 0 : Nat) : Int) - 192 = (((nats t).getD 0 0 - 192 : Nat) : Int) from by omega, e1]
      exact h
    · rw [if_neg (by omega), ej ((nats t).getD 0 0) (by rw [if_neg h1])]
      exact h
  | i + 1, h4, hn, hb, hlt =>
    rw [if_neg (by omega)]
    refine ⟨k + 11, by omega, ?_⟩
    have h := first_j3 t (accN (nats t) (i + 2)) (i + 2) (k + 7) (by omega) (by omega)
    have ea : wrap64 (wrap64 (64 * ((accN (nats t) (i + 1) : Nat) : Int)) + Int.tmod (((nats t).getD (i + 1) 0 : Nat) : Int) 64) = ((accN (nats t) (i + 2) : Nat) : Int) := by
      rw [show (64 : Int) = ((64 : Nat) : Int) from rfl, tmod_nat, wrap_id (x := ((64 : Nat) : Int) * _) (by omega) (by omega), wrap_id (by omega) (by omega)]
      show _ = ((64 * accN (nats t) (i + 1) + (nats t).getD (i + 1) 0 % 64 : Nat) : Int)
      omega
    rw [ea]
    exact h

theorem first_none (t : ByteArray) (k : Nat) (x n : Int) (h : ¬ (n ≤ 4 ∧ n ≤ (t.size : Int))) : phalaroperef01_First.l0 (k + 2) t x n = some (0, 0) := by
  rw [phalaroperef01_First.l0]
  by_cases h1 : n ≤ 4
  · rw [if_pos h1, decide_eq_false (by omega), phalaroperef01_First.j1, if_neg (by decide)]
  · rw [if_neg h1, phalaroperef01_First.j1, if_neg (by decide)]

theorem first_loop (t : ByteArray) (R : Int × Int) (hR : (∀ i, 1 ≤ i → i ≤ 4 → i ≤ t.size → ¬ hit (nats t) i) → R = (0, 0))
    (hR2 : ∀ i, 1 ≤ i → i ≤ 4 → i ≤ t.size → hit (nats t) i → R = (((accN (nats t) i : Nat) : Int), (i : Int))) : ∀ (d i k : Nat), 4 - i = d → i ≤ 4 → 4 * d + 14 ≤ k → (∀ j, 1 ≤ j → j ≤ i → ¬ hit (nats t) j) →
      phalaroperef01_First.l0 k t ((accN (nats t) i : Nat) : Int) ((i + 1 : Nat) : Int) = some R
  | 0, i, k, hd, hi, hk, hno => by
    obtain ⟨k, rfl⟩ : ∃ m, k = m + 2 := ⟨k - 2, by omega⟩
    rw [first_none t k _ _ (by omega), hR fun j h1 h2 _ => hno j h1 (by omega)]
  | d + 1, i, k, hd, hi, hk, hno => by
    obtain ⟨k, rfl⟩ : ∃ m, k = m + 14 := ⟨k - 14, by omega⟩
    by_cases hn : i < t.size
    · obtain ⟨j, hj, h1, h2⟩ := first_step t i k (by omega) hn
      by_cases hh : hit (nats t) (i + 1)
      · rw [h1 hh, hR2 (i + 1) (by omega) (by omega) (by omega) hh]
      · rw [h2 hh]
        refine first_loop t R hR hR2 d (i + 1) j (by omega) (by omega) (by omega) fun m m1 m2 => ?_
        rcases Nat.lt_or_ge m (i + 1) with h | h
        · exact hno m m1 (by omega)
        · rw [show m = i + 1 from by omega]; exact hh
    · rw [first_none t (k + 12) _ _ (by omega), hR fun j h1 h2 h3 => hno j h1 (by omega)]

theorem hit_split {l : List Nat} {n : Nat} (h : hit l n) : l = encN (accN l n) ++ l.drop n := by
  rw [h.2, List.take_append_drop]
theorem first_no (t : ByteArray) (h : nats t = [] ∨ stopL (nats t)) (k : Nat) (hk : 30 ≤ k) : phalaroperef01_First.f k t = some (0, 0) := by
  have hno : ∀ i, 1 ≤ i → i ≤ t.size → ¬ hit (nats t) i := by
    intro i h1 h2 hh
    have hs := hit_split hh
    rcases h with h | h
    · have := congrArg List.length h
      rw [nats_len, List.length_nil] at this
      omega
    · rw [hs] at h
      exact stop_enc _ hh.1 _ h
  exact first_loop t (0, 0) (fun _ => rfl) (fun i h1 _ h3 hh => absurd hh (hno i h1 h3)) 4 0 k rfl (by omega) (by omega) (fun j h1 h2 => by omega)
theorem first_yes (t : ByteArray) (h0 : nats t ≠ []) (h : ¬ stopL (nats t)) (k : Nat) (hk : 30 ≤ k) : phalaroperef01_First.f k t = some ((((dec (nats t)).1 : Nat) : Int), (((dec (nats t)).2 : Nat) : Int)) := by
  obtain ⟨hc, hs, hm⟩ := enc_dec (nats t) h0 (nats_byte t) h
  have hl := encN_len (dec (nats t)).1
  rw [← hm] at hl
  have hsz : (dec (nats t)).2 ≤ t.size := by
    have := congrArg List.length hs
    rw [List.length_append, ← hm, List.length_drop, nats_len] at this
    omega
  have hacc : accN (nats t) (dec (nats t)).2 = (dec (nats t)).1 := by
    have := acc_enc (dec (nats t)).1 hc ((nats t).drop (dec (nats t)).2)
    rw [← hs, ← hm] at this
    exact this
  have hhit : hit (nats t) (dec (nats t)).2 := by
    refine ⟨by rw [hacc]; exact hc, ?_⟩
    rw [hacc]
    have := congrArg (List.take (dec (nats t)).2) hs
    rw [List.take_left' hm.symm] at this
    exact this.symm
  refine first_loop t _ (fun hno => absurd hhit (hno _ hl.1 hl.2 hsz)) (fun i h1 h2 h3 hh => ?_) 4 0 k rfl (by omega) (by omega) (fun j h1 h2 => by omega)
  have e1 := (enc_inj hc hh.1 (hs.symm.trans (hit_split hh))).1
  have e2 : (dec (nats t)).2 = i := by
    rw [hm, e1, hh.2, List.length_take, nats_len]
    omega
  rw [e1, e2]

end Go.Proofs.Ytjjmfmlgemdjkaa.Pure
