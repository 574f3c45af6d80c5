/- The law UtfBack, out of what its functions tell. -/
import Derived.Test.YtjjmfmlgemdjkaaUtfO
namespace Go.Proofs.Ytjjmfmlgemdjkaa.Pure
open Go.RowKit Go.Proofs.Ytjjmfmlgemdjkaa.PUtf Go.Proofs.YtjjmfmlgemdjkaaW.PrintWords Go.Proofs.YtjjmfmlgemdjkaaW.PrintLast Go.Proofs.YtjjmfmlgemdjkaaW.PrintMore

theorem same_loop (l : List Int) (hl : l.length ≤ 1000000) : ∀ (d k i : Nat), l.length - i = d → i ≤ l.length → d < k → phalaroperef01_Same.l0 k l l (i : Int) = some true
  | 0, k, i, hd, hi, hk => by
    obtain ⟨k, rfl⟩ : ∃ m, k = m + 1 := ⟨k - 1, by omega⟩
    simp only [phalaroperef01_Same.l0]
    rw [if_neg (by omega)]
  | d + 1, k, i, hd, hi, hk => by
    obtain ⟨k, rfl⟩ : ∃ m, k = m + 1 := ⟨k - 1, by omega⟩
    simp only [phalaroperef01_Same.l0]
    rw [if_pos (by omega), if_pos (by omega), if_pos (by omega), if_true, wrap_id (by omega) (by omega)]
    exact same_loop l hl d k (i + 1) (by omega) (by omega) (by omega)
theorem same_self (l : List Int) (hl : l.length ≤ 1000000) (k : Nat) (hk : l.length < k) : phalaroperef01_Same.f k l l = some true := by
  unfold phalaroperef01_Same.f
  rw [if_pos rfl]
  exact same_loop l hl l.length k 0 rfl (by omega) hk
theorem chars_bad (s : ByteArray) (h : s.size ≤ 1000000) (hv : badU s = s.size) : utf_Chars.f s = some ((charsU s).map fun (c : Nat) => (c : Int), true) := by
  unfold utf_Chars.f; rw [if_pos h, if_pos hv]
theorem chars_not (s : ByteArray) (h : s.size ≤ 1000000) (hv : ¬ badU s = s.size) : utf_Chars.f s = some ([], false) := by
  unfold utf_Chars.f; rw [if_pos h, if_neg hv]
theorem back1 (s : ByteArray) (hs : s.size ≤ 2000) (k : Nat) : phalaropelaw01_UtfBack.j1 (k + 1) s true = some true := by
  simp only [phalaropelaw01_UtfBack.j1, if_true]
  by_cases hv : badU s = s.size
  · rw [chars_bad s (by omega) hv]
    simp only [Option.bind_some, if_true]
    have hl := charsU_len s
    have hall : ((charsU s).map fun (c : Nat) => (c : Int)).all mayI = true := by
      rw [List.all_eq_true]
      intro x hx
      obtain ⟨c, hc, rfl⟩ := List.mem_map.1 hx
      exact ok_mayI (chars_ok s c hc)
    rw [text _ (by rw [List.length_map]; omega)]
    simp only [Option.bind_some]
    have ht : textU ((charsU s).map fun (c : Nat) => (c : Int)) = (s, true) := by
      unfold textU
      rw [if_pos hall]
      congr 1
      refine nats_inj ?_
      have hid : (List.map Int.toNat (List.map (fun (c : Nat) => (c : Int)) (charsU s))) = charsU s := by rw [List.map_map]; exact (List.map_congr_left fun x _ => rfl).trans (List.map_id _)
      rw [text_nats hall, hid, ← begin_nats, hv, nats_extract, List.drop_zero, Nat.sub_zero, List.take_of_length_le (by rw [nats_len]; exact Nat.le_refl _)]
    rw [ht]
    simp only [if_true]
    rw [bad s (by omega), hv]
    simp
  · rw [chars_not s (by omega) hv]
    simp only [Option.bind_some, Bool.false_eq_true, if_false]
    rw [bad s (by omega)]
    simp only [Option.bind_some]
    have := badU_le s
    rw [decide_eq_true (by omega)]
theorem UtfBack : phalaropelaw01_UtfBack.Pure := by
  intro l s hl1 hl2 hl3 hs
  refine ⟨502, ?_⟩
  unfold phalaropelaw01_UtfBack.f
  rw [awake]
  simp only [Option.bind_some]
  by_cases h1 : (l.length : Int) > 500
  · rw [if_pos h1]
    simp [phalaropelaw01_UtfBack.j0]
  rw [if_neg h1]
  by_cases h2 : (s.size : Int) > 2000
  · rw [decide_eq_true h2]
    simp [phalaropelaw01_UtfBack.j0]
  rw [decide_eq_false h2]
  simp only [phalaropelaw01_UtfBack.j0, Bool.false_eq_true, if_false]
  rw [text l (by omega)]
  simp only [Option.bind_some]
  by_cases hall : l.all mayI = true
  · have ht : textU l = (Go.runesBytes l, true) := by unfold textU; rw [if_pos hall]
    have hsz := runes_size hall
    obtain ⟨r1, r2⟩ := text_run hall
    rw [ht]
    simp only [if_true]
    rw [chars_bad _ (by omega) r2]
    simp only [Option.bind_some, if_true]
    have hml : (charsU (Go.runesBytes l)).map (fun (c : Nat) => (c : Int)) = l := by
      rw [r1, List.map_map]
      refine (List.map_congr_left fun x hx => ?_).trans (List.map_id l)
      obtain ⟨c, rfl, _⟩ := mayI_ok (List.all_eq_true.1 hall x hx)
      rfl
    rw [hml, same_self l (by omega) 501 (by omega)]
    simp only [Option.bind_some, if_true]
    exact back1 s (by omega) 500
  · have ht : textU l = (⟨#[]⟩, false) := by unfold textU; rw [if_neg hall]
    rw [ht]
    simp only [Bool.false_eq_true, if_false]
    exact back1 s (by omega) 500

end Go.Proofs.Ytjjmfmlgemdjkaa.Pure
