/- The law UcsWhole, out of what its functions tell. -/
import Derived.Test.YtjjmfmlgemdjkaaPureUcsBegins
import Derived.Test.YtjjmfmlgemdjkaaPUcsx9
namespace Go.Proofs.Ytjjmfmlgemdjkaa.Pure
open Go.RowKit Go.Proofs.Ytjjmfmlgemdjkaa.PUcs Go.Proofs.YtjjmfmlgemdjkaaW.PrintWords Go.Proofs.YtjjmfmlgemdjkaaW.PrintLast Go.Proofs.YtjjmfmlgemdjkaaW.PrintMore

theorem whole_loop (s : ByteArray) (hs : s.size ≤ 1000) (G : Bool → Bool) (hG : ∀ y k, 4 ≤ k → phalaropelaw04_UcsWhole.l0 k s true y 256 = some (G y)) : ∀ (d i k : Nat) (y : Bool), i + d = 256 → d + 4 ≤ k →
    phalaropelaw04_UcsWhole.l0 k s true y (i : Int) = some (G (y || (List.range' i d).any fun b => fitsB (nats s ++ [b])))
  | 0, i, k, y, hi, hk => by
    obtain rfl : i = 256 := by omega
    rw [List.range'_zero, List.any_nil, Bool.or_false]
    exact hG y k (by omega)
  | d + 1, i, k, y, hi, hk => by
    obtain ⟨k, rfl⟩ : ∃ m, k = m + 2 := ⟨k - 2, by omega⟩
    have hw : wrap64 ((i : Int) + 1) = ((i + 1 : Nat) : Int) := by rw [wrap_id (by omega) (by omega)]; omega
    rw [phalaropelaw04_UcsWhole.l0, if_pos (show (i : Int) < 256 by omega), List.range'_succ, List.any_cons, hw]
    by_cases hy : y = true
    · subst hy
      rw [if_pos rfl, whole_loop s hs G hG d (i + 1) (k + 1) true (by omega) (by omega)]
      simp
    · have hy' : y = false := by simpa using hy
      subst hy'
      have hsz : (strOfNums [(i : Int) % 256]).size = 1 := strOfNums_size _
      have hn : nats (s ++ strOfNums [(i : Int) % 256]) = nats s ++ [i] := by
        rw [nats_append, nats_nums]
        have : ((i : Int) % 256).toNat % 256 = i := by omega
        simp [this]
      rw [if_neg (by decide), Option.bind_some, hsz, if_pos (by omega), fits_ucs _ (by rw [ByteArray.size_append, hsz]; omega) k, Option.bind_some, hn, whole_loop s hs G hG d (i + 1) (k + 1) _ (by omega) (by omega)]
      simp
theorem no_take {s : ByteArray} {c : Nat} (hc : okC c) (hp : nats s <+: encN c) (hne : nats s ≠ encN c) : charsU s = [] := by
  cases hcs : charsU s with
  | nil => rfl
  | cons d r =>
    have hr := run_of s
    rw [hcs] at hr
    have hd := hr.2.1 d (by simp)
    have he := hr.1
    rw [List.flatMap_cons, List.append_assoc] at he
    obtain ⟨q, hq⟩ := hp
    rw [he, List.append_assoc] at hq
    have h2 := enc_inj hd hc (r := (r.flatMap encN ++ (nats s).drop (badU s)) ++ q) (q := []) (by rw [List.append_nil]; exact hq)
    have h3 := List.append_eq_nil_iff.1 h2.2
    rw [h3.1, List.append_nil, h2.1] at he
    exact absurd he hne
theorem UcsWhole : phalaropelaw04_UcsWhole.Pure := by
  intro s _
  refine ⟨300 + 1, ?_⟩
  unfold phalaropelaw04_UcsWhole.f
  rw [awake4 (300 + 1) (by omega), Option.bind_some]
  by_cases h1 : (s.size : Int) > 1000
  · rw [if_pos h1, phalaropelaw04_UcsWhole.j0, if_pos rfl]
  rw [if_neg h1, fits_ucs s (by omega) 300, Option.bind_some]
  by_cases hf : fitsP (nats s)
  · rw [fitsB_true.2 hf, phalaropelaw04_UcsWhole.j0, if_neg (by decide)]
    have hf' := hf
    obtain ⟨h0, c, hc, hp⟩ := hf'
    obtain ⟨hok, _⟩ := may_ok hc
    by_cases he : nats s = encN c
    · obtain ⟨r, hr⟩ := chars_some hok (q := []) (by rw [List.append_nil]; exact he)
      have hz := encN_len c
      have hany : ((List.range' 0 256).any fun b => fitsB (nats s ++ [b])) = false := by
        rw [List.any_eq_false]
        intro b _
        rw [he]
        exact fun h => fits_over hok b (fitsB_true.1 h)
      have hG : ∀ (y : Bool) k, 4 ≤ k → phalaropelaw04_UcsWhole.l0 k s true y 256 = some (!y) := by
        intro y k hk
        obtain ⟨k, rfl⟩ : ∃ m, k = m + 3 := ⟨k - 3, by omega⟩
        have hnz : ((((encN c).length : Nat) : Int) == 0) = false := beq_eq_false_iff_ne.2 (by omega)
        have hsz : ((((encN c).length : Nat) : Int) == (s.size : Int)) = true := beq_iff_eq.2 (by rw [← he, nats_len])
        rw [phalaropelaw04_UcsWhole.l0, if_neg (by decide), take_some s (by omega) k hr, if_pos (mayB_true.2 hc), Option.bind_some, if_pos rfl, hnz]
        cases y
        · dsimp only
          rw [if_pos (by decide), if_neg (show ¬ (((encN c).length : Nat) : Int) = 0 by omega), hsz]
          rfl
        · rfl
      have := whole_loop s (by omega) (fun y => !y) hG 256 0 300 false rfl (by omega)
      rw [hany] at this
      exact this
    · have hnil := no_take hok hp he
      have hany : ((List.range' 0 256).any fun b => fitsB (nats s ++ [b])) = true := by
        obtain ⟨q, hq⟩ := hp
        cases q with
        | nil => rw [List.append_nil] at hq; exact absurd hq he
        | cons b q =>
          have hb : b < 256 := encN_byte c (by unfold okC at hok; omega) b (by rw [← hq]; simp)
          rw [List.any_eq_true]
          refine ⟨b, by simp [List.mem_range']; omega, fitsB_true.2 ⟨by simp, c, hc, q, ?_⟩⟩
          rw [← hq]
          simp
      have hG : ∀ (y : Bool) k, 4 ≤ k → phalaropelaw04_UcsWhole.l0 k s true y 256 = some y := by
        intro y k hk
        obtain ⟨k, rfl⟩ : ∃ m, k = m + 3 := ⟨k - 3, by omega⟩
        rw [phalaropelaw04_UcsWhole.l0, if_neg (by decide), take_none s (by omega) (k + 1) hnil, Option.bind_some, if_pos rfl]
        cases y <;> rfl
      have := whole_loop s (by omega) (fun y => y) hG 256 0 300 false rfl (by omega)
      rw [hany] at this
      exact this
  · rw [fits_no_of hf, phalaropelaw04_UcsWhole.j0, if_pos (by decide)]
end Go.Proofs.Ytjjmfmlgemdjkaa.Pure
