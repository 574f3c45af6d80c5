/- The law UcsBegins, out of what its functions tell. -/
import Derived.Test.YtjjmfmlgemdjkaaUcsQ
import Derived.Test.YtjjmfmlgemdjkaaUcsL
import Derived.Test.YtjjmfmlgemdjkaaPureUcsCut
namespace Go.Proofs.Ytjjmfmlgemdjkaa.Pure
open Go.RowKit Go.Proofs.Ytjjmfmlgemdjkaa.PUcs Go.Proofs.YtjjmfmlgemdjkaaW.PrintWords Go.Proofs.YtjjmfmlgemdjkaaW.PrintLast Go.Proofs.YtjjmfmlgemdjkaaW.PrintMore

theorem fits_no_of {s : ByteArray} (h : ¬ fitsP (nats s)) : fitsB (nats s) = false := by rw [← Bool.not_eq_true, fitsB_true]; exact h
theorem fits_enc {c : Nat} (hok : okC c) : fitsP (encN c) ↔ MayP (c : Int) := by
  constructor
  · rintro ⟨_, d, hd, q, hq⟩
    have := (enc_inj hok (may_ok hd).1 (r := q) (q := []) (by rw [hq, List.append_nil])).1
    rw [this]
    exact hd
  · exact fun h => ⟨encN_ne c, c, h, List.prefix_rfl⟩
theorem fits_over {c : Nat} (hok : okC c) (x : Nat) : ¬ fitsP (encN c ++ [x]) := by
  rintro ⟨_, d, hd, q, hq⟩
  rw [List.append_assoc] at hq
  have := (enc_inj hok (may_ok hd).1 (r := [x] ++ q) (q := []) (by rw [hq, List.append_nil])).2
  simp at this
theorem begins_loop (c : Nat) (hc : MayP (c : Int)) (more : Int) (hm0 : 0 ≤ more) (hm1 : more ≤ 255) (s : ByteArray) (hs : nats s = encN c) : ∀ (d i k : Nat), s.size + 1 - i = d → 1 ≤ i → i ≤ s.size + 1 → d + 6 ≤ k →
    phalaropelaw04_UcsBegins.l0 k (c : Int) more true s (i : Int) = some true
  | 0, i, k, hd, h1, hi, hk => by
    obtain ⟨k, rfl⟩ : ∃ m, k = m + 3 := ⟨k - 3, by omega⟩
    have hok := (may_ok hc).1
    have hz := encN_len c
    rw [← hs, nats_len] at hz
    have hsz : (strOfNums [more]).size = 1 := strOfNums_size _
    have hx : (s ++ strOfNums [more]).size ≤ 1000000 := by rw [ByteArray.size_append, hsz]; omega
    have hn : nats (s ++ strOfNums [more]) = encN c ++ [more.toNat % 256] := by rw [nats_append, nats_nums, hs]; rfl
    obtain ⟨r, hr⟩ := chars_some hok hn
    have hno : fitsB (nats (s ++ strOfNums [more])) = false := fits_no_of (by rw [hn]; exact fits_over hok _)
    have he : fitsB (nats ⟨#[]⟩) = false := fits_no_of fun h => h.1 rfl
    rw [phalaropelaw04_UcsBegins.l0, if_neg (by omega), Option.bind_some, hsz, if_pos (by omega), take_some _ hx k hr, if_pos (mayB_true.2 hc), Option.bind_some, if_pos rfl, if_pos rfl, if_pos (by rw [← hs, nats_len]), Option.bind_some, hsz, if_pos (by omega), fits_ucs _ hx (k + 1), Option.bind_some, hno, if_neg (by decide), fits_ucs _ (by decide) (k + 1), Option.bind_some, he]
    rfl
  | d + 1, i, k, hd, h1, hi, hk => by
    obtain ⟨k, rfl⟩ : ∃ m, k = m + 2 := ⟨k - 2, by omega⟩
    have hz := encN_len c
    rw [← hs, nats_len] at hz
    have hf : fitsP (nats (s.extract 0 i)) := by
      rw [nats_extract, List.drop_zero, Nat.sub_zero, hs]
      exact fits_take ((fits_enc (may_ok hc).1).2 hc) i h1
    have hx : (s.extract 0 i).size ≤ 1000000 := by rw [ByteArray.size_extract]; omega
    rw [phalaropelaw04_UcsBegins.l0, if_pos (by omega), if_pos (by omega), Int.toNat_natCast, fits_ucs _ hx k, Option.bind_some, if_pos (fitsB_true.2 hf), wrap_id (by omega) (by omega)]
    exact begins_loop c hc more hm0 hm1 s hs d (i + 1) (k + 1) (by omega) (by omega) (by omega) (by omega)
theorem UcsBegins : phalaropelaw04_UcsBegins.Pure := by
  intro c more hc hm
  obtain ⟨m0, m1⟩ := u8_is hm
  refine ⟨26 + 4, ?_⟩
  unfold phalaropelaw04_UcsBegins.f
  rw [awake4 (26 + 4) (by omega), Option.bind_some, may_ucs, Option.bind_some]
  by_cases hmay : MayP c
  · obtain ⟨d, rfl⟩ : ∃ d : Nat, c = d := ⟨c.toNat, by unfold MayP at hmay; omega⟩
    obtain ⟨s, hs, hn⟩ := one_f d (may_ok hmay).1 26
    have hz := encN_len d
    rw [← hn, nats_len] at hz
    rw [if_pos (mayB_true.2 hmay), hs, Option.bind_some]
    exact begins_loop d hmay more m0 m1 s hn _ 1 (26 + 4) rfl (by omega) (by omega) (by omega)
  · rw [if_neg (fun h => hmay (mayB_true.1 h)), if_pos rfl]
    by_cases h1 : c < 128
    · rw [if_pos h1]
    rw [if_neg h1]
    by_cases h2 : c > 1114111
    · rw [if_pos h2]
    rw [if_neg h2]
    obtain ⟨d, rfl⟩ : ∃ d : Nat, c = d := ⟨c.toNat, by omega⟩
    obtain ⟨s, hs, hn⟩ := one_le d (by omega) 26
    have hz := encN_len d
    rw [← hn, nats_len] at hz
    rw [hs, Option.bind_some, fits_ucs s (by omega) (25 + 4), Option.bind_some]
    by_cases hf : fitsB (nats s) = true
    · rw [if_pos hf]
      have hno : ¬ okC d := fun hok => hmay ((fits_enc hok).1 (by rw [← hn]; exact fitsB_true.1 hf))
      unfold okC at hno
      rw [if_pos (by omega), decide_eq_true (by omega)]
    · rw [if_neg hf]
end Go.Proofs.Ytjjmfmlgemdjkaa.Pure
