/- Plain: ucs.Take and the reference's. -/
import Derived.Test.YtjjmfmlgemdjkaaUcsP
namespace Go.Proofs.Ytjjmfmlgemdjkaa.Pure
open Go.RowKit Go.Proofs.Ytjjmfmlgemdjkaa.PUcs Go.Proofs.YtjjmfmlgemdjkaaW.PrintWords Go.Proofs.YtjjmfmlgemdjkaaW.PrintLast Go.Proofs.YtjjmfmlgemdjkaaW.PrintMore

theorem chars_none {s : ByteArray} (h : nats s = [] ∨ stopL (nats s)) : charsU s = [] := by
  cases hc : charsU s with
  | nil => rfl
  | cons c r =>
    have hr := run_of s
    rw [hc] at hr
    have hok := hr.2.1 c (by simp)
    have he := hr.1
    rw [List.flatMap_cons, List.append_assoc] at he
    rcases h with h | h
    · rw [h] at he
      have := congrArg List.length he
      have := (encN_len c).1
      rw [List.length_append, List.length_nil] at *
      omega
    · rw [he] at h
      exact absurd h (stop_enc c hok _)
theorem chars_some {s : ByteArray} {c : Nat} {q : List Nat} (hc : okC c) (h : nats s = encN c ++ q) : ∃ r, charsU s = c :: r := by
  cases hcs : charsU s with
  | nil =>
    have hr := run_of s
    rw [hcs] at hr
    have h' : nats s = (nats s).drop (badU s) := by
      have := hr.1
      rw [List.flatMap_nil, List.nil_append] at this
      exact this
    exact absurd ⟨q, h.symm.trans h'⟩ (hr.2.2 c hc)
  | cons d r =>
    have hr := run_of s
    rw [hcs] at hr
    have he := hr.1
    rw [List.flatMap_cons, List.append_assoc, h] at he
    exact ⟨r, by rw [(enc_inj hc (hr.2.1 d (by simp)) he).1]⟩
theorem pref_eq (s : ByteArray) (m : Int) (h : s.size ≤ 1000000) : utf_Prefix.f s m = some (prefU s m) := by unfold utf_Prefix.f; rw [if_pos h]
theorem chars_pref (s : ByteArray) (h : s.size ≤ 1000000) (m : Int) : utf_Chars.f (prefU s m) = some (((charsU s).take m.toNat).map (fun (c : Nat) => (c : Int)), true) := by
  have hz := pref_size s m
  obtain ⟨h1, h2⟩ := pref_run s m
  unfold utf_Chars.f
  rw [if_pos (by omega), if_pos h2, h1]
theorem take_none (s : ByteArray) (hs : s.size ≤ 1000000) (k : Nat) (h : charsU s = []) : ucs_Take.f (k + 1) s = some (0, 0) := by
  unfold ucs_Take.f
  rw [pref_eq s 1 hs, Option.bind_some, chars_pref s hs 1, Option.bind_some, h, ucs_Take.l0]
  simp
theorem take_some (s : ByteArray) (hs : s.size ≤ 1000000) (k : Nat) {c : Nat} {r : List Nat} (h : charsU s = c :: r) : ucs_Take.f (k + 2) s = some (if mayB c = true then ((c : Int), (((encN c).length : Nat) : Int)) else (0, 0)) := by
  have hz : (prefU s 1).size = (encN c).length := by
    rw [← nats_len, pref_nats, h]
    simp
  unfold ucs_Take.f
  rw [pref_eq s 1 hs, Option.bind_some, chars_pref s hs 1, Option.bind_some, h]
  have e1 : ((c :: r).take (1 : Int).toNat).map (fun (c : Nat) => (c : Int)) = [(c : Int)] := by simp
  rw [e1, ucs_Take.l0, if_pos (by simp), if_pos (by decide), if_pos (by simp)]
  have e2 : rd [(c : Int)] 0 = (c : Int) := rfl
  rw [e2, may_ucs, Option.bind_some, hz]
  by_cases hm : mayB c = true
  · rw [if_pos hm, if_pos hm]
  · rw [if_neg hm, if_neg hm, ucs_Take.l0]
    have e3 : wrap64 (0 + 1) = 1 := by unfold wrap64; omega
    rw [e3]
    simp
end Go.Proofs.Ytjjmfmlgemdjkaa.Pure
