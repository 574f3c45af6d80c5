/- Plain: what the reference functions of layer 1 tell. -/
import Derived.Test.YtjjmfmlgemdjkaaUtfO
namespace Go.Proofs.Ytjjmfmlgemdjkaa.Pure
open Go.RowKit Go.Proofs.Ytjjmfmlgemdjkaa.PUtf Go.Proofs.YtjjmfmlgemdjkaaW.PrintWords Go.Proofs.YtjjmfmlgemdjkaaW.PrintLast Go.Proofs.YtjjmfmlgemdjkaaW.PrintMore

theorem may_ref (x : Int) : phalaroperef01_May.f x = some (mayI x) := by
  unfold phalaroperef01_May.f mayI
  by_cases h1 : x ≥ 0
  · by_cases h2 : x ≤ 1114111
    · by_cases h3 : x < 55296
      · rw [if_pos h1, if_pos h2, if_pos h3]; congr 1; rw [Bool.eq_iff_iff]; simp; omega
      · rw [if_pos h1, if_pos h2, if_neg h3]; congr 1; rw [Bool.eq_iff_iff]; simp; omega
    · rw [if_pos h1, if_neg h2]; simp; omega
  · rw [if_neg h1]; simp; omega
theorem may_utf (x : Int) : utf_May.f x = some (mayI x) := (show utf_May.f x = phalaroperef01_May.f x from rfl).trans (may_ref x)

theorem tdiv_nat (c d : Nat) : Int.tdiv (c : Int) (d : Int) = ((c / d : Nat) : Int) := by
  rw [Int.tdiv_eq_ediv_of_nonneg (by omega)]; rfl
theorem tmod_nat (c d : Nat) : Int.tmod (c : Int) (d : Int) = ((c % d : Nat) : Int) := by
  rw [Int.tmod_eq_emod_of_nonneg (by omega)]; rfl
theorem tail_stop (c n : Nat) (hc : c ≤ 1114111) (k : Nat) : phalaroperef01_tail.l0 (k + 1) (c : Int) (n : Int) (n : Int) = some ((128 + c % 64 : Nat) : Int) := by
  rw [phalaroperef01_tail.l0, if_neg (by omega), show (64 : Int) = ((64 : Nat) : Int) from rfl, tmod_nat]
  congr 1
  unfold wrap64
  omega
theorem tail_step (c n i : Nat) (hc : c ≤ 1114111) (hi : i < n) (hn : n ≤ 3) (k : Nat) : phalaroperef01_tail.l0 (k + 1) (c : Int) (n : Int) (i : Int) = phalaroperef01_tail.l0 k ((c / 64 : Nat) : Int) (n : Int) ((i + 1 : Nat) : Int) := by
  rw [phalaroperef01_tail.l0, if_pos (by omega), show (64 : Int) = ((64 : Nat) : Int) from rfl, tdiv_nat, wrap_id (by omega) (by omega), wrap_id (by omega) (by omega)]
  rfl
theorem tail0 (c : Nat) (hc : c ≤ 1114111) (k : Nat) : phalaroperef01_tail.f (k + 4) (c : Int) 0 = some ((128 + c % 64 : Nat) : Int) := tail_stop c 0 hc (k + 3)
theorem tail1 (c : Nat) (hc : c ≤ 1114111) (k : Nat) : phalaroperef01_tail.f (k + 4) (c : Int) 1 = some ((128 + c / 64 % 64 : Nat) : Int) :=
  (tail_step c 1 0 hc (by omega) (by omega) (k + 3)).trans (tail_stop (c / 64) 1 (by omega) (k + 2))
theorem tail2 (c : Nat) (hc : c ≤ 1114111) (k : Nat) : phalaroperef01_tail.f (k + 4) (c : Int) 2 = some ((128 + c / 4096 % 64 : Nat) : Int) :=
  (tail_step c 2 0 hc (by omega) (by omega) (k + 3)).trans ((tail_step (c / 64) 2 1 (by omega) (by omega) (by omega) (k + 2)).trans ((tail_stop (c / 64 / 64) 2 (by omega) (k + 1)).trans (by congr 1; omega)))
theorem nats_nums (xs : List Int) : nats (strOfNums xs) = xs.map fun n => n.toNat % 256 := by
  unfold nats
  rw [strOfNums_data, List.map_map]
  refine List.map_congr_left fun x _ => ?_
  show (UInt8.ofNat x.toNat).toNat = _
  rw [UInt8.toNat_ofNat']
theorem one_f (c : Nat) (hc : okC c) (k : Nat) : ∃ s, phalaroperef01_One.f (k + 4) (c : Int) = some s ∧ nats s = encN c := by
  have hle : c ≤ 1114111 := by unfold okC at hc; omega
  unfold phalaroperef01_One.f
  rw [tail0 c hle, tail1 c hle, tail2 c hle]
  simp only [Option.bind_some]
  by_cases h1 : c < 128
  · rw [if_pos (by omega)]
    refine ⟨_, rfl, ?_⟩
    rw [nats_nums]
    unfold encN
    rw [if_pos h1]
    simp
    omega
  rw [if_neg (by omega)]
  by_cases h2 : c < 2048
  · rw [if_pos (by omega)]
    refine ⟨_, rfl, ?_⟩
    rw [nats_nums, show (64 : Int) = ((64 : Nat) : Int) from rfl, tdiv_nat, wrap_id (x := ((c / 64 : Nat) : Int)) (by omega) (by omega), wrap_id (by omega) (by omega)]
    unfold encN
    rw [if_neg h1, if_pos h2]
    simp
    omega
  rw [if_neg (by omega)]
  by_cases h3 : c < 65536
  · rw [if_pos (by omega)]
    refine ⟨_, rfl, ?_⟩
    rw [nats_nums, show (4096 : Int) = ((4096 : Nat) : Int) from rfl, tdiv_nat, wrap_id (x := ((c / 4096 : Nat) : Int)) (by omega) (by omega), wrap_id (by omega) (by omega)]
    unfold encN
    rw [if_neg h1, if_neg h2, if_pos h3]
    simp
    omega
  rw [if_neg (by omega)]
  refine ⟨_, rfl, ?_⟩
  rw [nats_nums, show (262144 : Int) = ((262144 : Nat) : Int) from rfl, tdiv_nat, wrap_id (x := ((c / 262144 : Nat) : Int)) (by omega) (by omega), wrap_id (by omega) (by omega)]
  unfold encN
  rw [if_neg h1, if_neg h2, if_neg h3]
  simp
  omega

theorem rd_get (l : List Int) (i : Nat) (h : i < l.length) : rd l (i : Int) = l[i] := by
  unfold rd
  rw [Int.toNat_natCast, List.getD_eq_getElem?_getD, List.getElem?_eq_getElem h]
  rfl
theorem flat_take (l : List Int) (i : Nat) (h : i < l.length) : ((l.take (i + 1)).map Int.toNat).flatMap encN = ((l.take i).map Int.toNat).flatMap encN ++ encN l[i].toNat := by
  rw [List.take_succ_eq_append_getElem h, List.map_append, List.flatMap_append]
  simp
theorem text_loop (l : List Int) (hl : l.length ≤ 500) : ∀ (d k i : Nat) (acc : ByteArray), l.length - i = d → i ≤ l.length → d + 5 < k → (∀ x ∈ l.take i, mayI x = true) → nats acc = ((l.take i).map Int.toNat).flatMap encN →
    phalaroperef01_Text.l0 k l acc (i : Int) = some (textU l)
  | 0, k, i, acc, hd, hi, hk, hall, hacc => by
    obtain ⟨k, rfl⟩ : ∃ m, k = m + 1 := ⟨k - 1, by omega⟩
    obtain rfl : i = l.length := by omega
    rw [List.take_length] at hall hacc
    rw [phalaroperef01_Text.l0, if_neg (by omega)]
    have ha : l.all mayI = true := List.all_eq_true.2 hall
    have : acc = Go.runesBytes l := nats_inj (by rw [hacc, text_nats ha])
    unfold textU
    rw [if_pos ha, this]
  | d + 1, k, i, acc, hd, hi, hk, hall, hacc => by
    obtain ⟨k, rfl⟩ : ∃ m, k = m + 5 := ⟨k - 5, by omega⟩
    have hlt : i < l.length := by omega
    rw [phalaroperef01_Text.l0, if_pos (by omega), if_pos (by omega), may_ref, rd_get l i hlt, Option.bind_some]
    by_cases hm : mayI l[i] = true
    · obtain ⟨c, hc, hok⟩ := mayI_ok hm
      obtain ⟨s, hs, hn⟩ := one_f c hok k
      rw [if_pos hm, hc, hs, Option.bind_some]
      have h1 : acc.size ≤ 4 * i := by
        rw [← nats_len, hacc]
        have := flat_le ((l.take i).map Int.toNat)
        rw [List.length_map, List.length_take] at this
        omega
      have h2 : s.size ≤ 4 := by
        rw [← nats_len, hn]
        exact (encN_len c).2
      rw [if_pos (by omega), wrap_id (by omega) (by omega)]
      refine text_loop l hl d (k + 4) (i + 1) _ (by omega) (by omega) (by omega) ?_ ?_
      · intro x hx
        rw [List.take_succ_eq_append_getElem hlt] at hx
        rcases List.mem_append.1 hx with hx | hx
        · exact hall x hx
        · rw [List.mem_singleton.1 hx]; exact hm
      · rw [nats_append, hacc, hn, flat_take l i hlt, hc]
        rfl
    · rw [if_neg hm]
      have hno : ¬ l.all mayI = true := fun h => hm (List.all_eq_true.1 h _ (List.getElem_mem hlt))
      unfold textU
      rw [if_neg hno]
theorem text_ref (l : List Int) (hl : l.length ≤ 500) (k : Nat) (hk : 506 ≤ k) : phalaroperef01_Text.f k l = some (textU l) :=
  text_loop l hl l.length k 0 ⟨#[]⟩ rfl (by omega) (by omega) (by simp) (by simp; rfl)
end Go.Proofs.Ytjjmfmlgemdjkaa.Pure
