/- Plain: what the printed functions of utf tell. -/
import Derived.Test.YtjjmfmlgemdjkaaPUtfx
import Derived.Test.YtjjmfmlgemdjkaaUtfN
namespace Go.Proofs.Ytjjmfmlgemdjkaa.Pure
open Go.RowKit Go.Proofs.Ytjjmfmlgemdjkaa.PUtf Go.Proofs.YtjjmfmlgemdjkaaW.PrintWords Go.Proofs.YtjjmfmlgemdjkaaW.PrintLast Go.Proofs.YtjjmfmlgemdjkaaW.PrintMore

theorem awake : phalaropelaw01_awake.f = some true := by decide +kernel

theorem bad (s : ByteArray) (h : s.size ≤ 1000000) : utf_Bad.f s = some ((badU s : Nat) : Int) := by unfold utf_Bad.f; rw [if_pos h]
theorem count (s : ByteArray) (h : s.size ≤ 1000000) : utf_Count.f s = some (((charsU s).length : Nat) : Int) := by unfold utf_Count.f; rw [if_pos h]
theorem prefx (s : ByteArray) (m : Int) (h : s.size ≤ 1000000) : utf_Prefix.f s m = some (prefU s m) := by unfold utf_Prefix.f; rw [if_pos h]
theorem valid (s : ByteArray) (h : s.size ≤ 1000000) : utf_Valid.f s = some (decide (badU s = s.size)) := by
  unfold utf_Valid.f
  rw [bad s h]
  simp only [Option.bind_some]
  congr 1
  by_cases h1 : badU s = s.size
  · rw [h1]; simp
  · rw [decide_eq_false h1, beq_eq_false_iff_ne]; omega
theorem text (l : List Int) (h : l.length ≤ 1000000) : utf_Text.f l = some (textU l) := by unfold utf_Text.f; rw [if_pos h]
theorem wrap_id {x : Int} (h0 : -9223372036854775808 ≤ x) (h1 : x < 9223372036854775808) : wrap64 x = x := by unfold wrap64; omega

theorem run_join {a b : ByteArray} (h : badU a = a.size) : charsU (a ++ b) = charsU a ++ charsU b ∧ badU (a ++ b) = a.size + badU b := by
  have ha := run_of a
  have hb := run_of b
  rw [h, List.drop_eq_nil_of_le (by rw [nats_len]; exact Nat.le_refl _)] at ha
  have hr : Run (nats (a ++ b)) (charsU a ++ charsU b) ((nats b).drop (badU b)) := by
    refine ⟨?_, ?_, hb.2.2⟩
    · rw [nats_append, List.flatMap_append, List.append_assoc, ← hb.1]
      rw [← show nats a = (charsU a).flatMap encN from by simpa using ha.1]
    · intro c hc
      rcases List.mem_append.1 hc with hc | hc
      · exact ha.2.1 c hc
      · exact hb.2.1 c hc
  obtain ⟨h1, h2⟩ := of_run hr
  refine ⟨h1, ?_⟩
  have := badU_le b
  rw [List.length_drop, nats_len, ByteArray.size_append] at h2
  omega

theorem flat_nil {ds : List Nat} (h : ds.flatMap encN = []) : ds = [] := by
  cases ds with
  | nil => rfl
  | cons d ds =>
    rw [List.flatMap_cons, List.append_eq_nil_iff] at h
    exact absurd h.1 (encN_ne d)

theorem cut_nats (t : ByteArray) (most : Int) : ∀ (b p n : Nat) (ds : List Nat), (∀ c ∈ ds, okC c) → (nats t).drop p = ds.flatMap encN → p ≤ t.size → t.size - p ≤ b →
    (nats t).take (cutU t most b p n) = (nats t).take p ++ (ds.take (most.toNat - n)).flatMap encN
  | 0, p, n, ds, hok, hd, hp, hb => by
    obtain rfl : p = t.size := by omega
    rw [List.drop_eq_nil_of_le (by rw [nats_len]; exact Nat.le_refl _)] at hd
    rw [flat_nil hd.symm]
    simp [cutU]
  | b + 1, p, n, ds, hok, hd, hp, hb => by
    unfold cutU
    by_cases hlt : p < t.size
    · rw [if_pos hlt]
      by_cases hm : most ≤ (n : Int)
      · rw [if_pos hm, show most.toNat - n = 0 from by omega]
        simp
      · rw [if_neg hm]
        cases ds with
        | nil =>
          have := congrArg List.length hd
          rw [List.length_drop, nats_len] at this
          simp at this
          omega
        | cons d ds =>
          have hdk := hok d (by simp)
          have hdec : Utf8.decode t p = (d, (encN d).length) := by
            rw [decode_dec, hd, List.flatMap_cons, dec_enc d hdk]
          rw [hdec]
          have hpos := (encN_len d).1
          have hl : (nats t).drop p = encN d ++ ds.flatMap encN := by rw [hd]; rfl
          have hlen : (encN d).length ≤ t.size - p := by
            have := congrArg List.length hl
            rw [List.length_drop, nats_len, List.length_append] at this
            omega
          have hd2 : (nats t).drop (p + (encN d).length) = ds.flatMap encN := by
            rw [← List.drop_drop, hl, List.drop_left]
          have ih := cut_nats t most b (p + (encN d).length) (n + 1) ds (fun c hc => hok c (by simp [hc])) hd2 (by omega) (by omega)
          rw [ih, show most.toNat - n = (most.toNat - (n + 1)) + 1 from by omega, List.take_succ_cons, List.flatMap_cons, ← List.append_assoc]
          congr 1
          rw [List.take_add, hl, List.take_left]
    · rw [if_neg hlt]
      obtain rfl : p = t.size := by omega
      rw [List.drop_eq_nil_of_le (by rw [nats_len]; exact Nat.le_refl _)] at hd
      rw [flat_nil hd.symm]
      simp

theorem pref_nats (s : ByteArray) (m : Int) : nats (prefU s m) = ((charsU s).take m.toNat).flatMap encN := by
  unfold prefU
  rw [nats_extract, List.drop_zero, Nat.sub_zero]
  have h := begin_nats s
  generalize s.extract 0 (badU s) = t at h
  rw [cut_nats t m t.size 0 0 (charsU s) (chars_ok s) (by rw [List.drop_zero, h]) (by omega) (by omega)]
  simp
theorem pref_run (s : ByteArray) (m : Int) : charsU (prefU s m) = (charsU s).take m.toNat ∧ badU (prefU s m) = (prefU s m).size :=
  run_valid (pref_nats s m) fun c hc => chars_ok s c (List.mem_of_mem_take hc)
theorem pref_of (s : ByteArray) (m : Int) : ∃ q, nats s = nats (prefU s m) ++ q := by
  refine ⟨((charsU s).drop m.toNat).flatMap encN ++ (nats s).drop (badU s), ?_⟩
  rw [pref_nats, ← List.append_assoc, ← List.flatMap_append, List.take_append_drop]
  exact (run_of s).1
theorem pref_size (s : ByteArray) (m : Int) : (prefU s m).size ≤ s.size := by
  obtain ⟨q, h⟩ := pref_of s m
  have := congrArg List.length h
  rw [List.length_append, nats_len, nats_len] at this
  omega

theorem mayI_ok {x : Int} (h : mayI x = true) : ∃ c : Nat, x = c ∧ okC c := by
  unfold mayI at h
  simp at h
  exact ⟨x.toNat, by omega, by unfold okC; omega⟩
theorem ok_mayI {c : Nat} (h : okC c) : mayI (c : Int) = true := by
  unfold mayI
  unfold okC at h
  simp
  omega
theorem text_nats {l : List Int} (h : l.all mayI = true) : nats (Go.runesBytes l) = (l.map Int.toNat).flatMap encN := by
  unfold Go.runesBytes
  rw [nats_runes l _ fun x hx => mayI_ok (List.all_eq_true.1 h x hx), nats_empty, List.nil_append]
theorem text_run {l : List Int} (h : l.all mayI = true) : charsU (Go.runesBytes l) = l.map Int.toNat ∧ badU (Go.runesBytes l) = (Go.runesBytes l).size :=
  run_valid (text_nats h) fun c hc => by
    obtain ⟨x, hx, rfl⟩ := List.mem_map.1 hc
    obtain ⟨d, rfl, hd⟩ := mayI_ok (List.all_eq_true.1 h x hx)
    rw [Int.toNat_natCast]
    exact hd
theorem flat_le : ∀ (l : List Nat), (l.flatMap encN).length ≤ 4 * l.length
  | [] => by simp
  | c :: l => by
    have := flat_le l
    have := (encN_len c).2
    rw [List.flatMap_cons, List.length_append, List.length_cons]
    omega
theorem runes_size {l : List Int} (h : l.all mayI = true) : (Go.runesBytes l).size ≤ 4 * l.length := by
  have := flat_le (l.map Int.toNat)
  rw [← text_nats h, nats_len, List.length_map] at this
  exact this
end Go.Proofs.Ytjjmfmlgemdjkaa.Pure
