/- The law UtfOne, out of what its functions tell. -/
import Derived.Test.YtjjmfmlgemdjkaaUtfP
namespace Go.Proofs.Ytjjmfmlgemdjkaa.Pure
open Go.RowKit Go.Proofs.Ytjjmfmlgemdjkaa.PUtf Go.Proofs.YtjjmfmlgemdjkaaW.PrintWords Go.Proofs.YtjjmfmlgemdjkaaW.PrintLast Go.Proofs.YtjjmfmlgemdjkaaW.PrintMore

def natsLess : List Nat → List Nat → Bool
  | _, [] => false
  | [], _ :: _ => true
  | a :: x, b :: y => decide (a < b) || (a == b && natsLess x y)
theorem less_nats : ∀ a b : List UInt8, Op.bytesLess a b = natsLess (a.map UInt8.toNat) (b.map UInt8.toNat)
  | [], [] => rfl
  | _ :: _, [] => rfl
  | [], _ :: _ => rfl
  | x :: a, y :: b => by
    simp only [Op.bytesLess, natsLess, List.map_cons, less_nats a b]
    congr 1
    congr 1
    rw [Bool.eq_iff_iff, beq_iff_eq, beq_iff_eq]
    exact ⟨fun h => by rw [h], fun h => UInt8.toNat_inj.1 h⟩
theorem enc_mono (a b : Nat) (h : a ≤ b) : (encN a).length ≤ (encN b).length := by
  unfold encN
  repeat' split
  all_goals first | omega | simp
set_option maxHeartbeats 4000000 in
theorem enc_less (a b : Nat) (hb : b ≤ 1114111) (h : a < b) : natsLess (encN a) (encN b) = true := by
  unfold encN
  repeat' split
  all_goals first | omega | (simp [natsLess]; try omega)
theorem one_text (c : Nat) (h : okC c) : ∃ s, textU [(c : Int)] = (s, true) ∧ nats s = encN c := by
  have ha : [(c : Int)].all mayI = true := by simp [ok_mayI h]
  refine ⟨Go.runesBytes [(c : Int)], by unfold textU; rw [if_pos ha], ?_⟩
  rw [text_nats ha]
  simp
theorem one0 (k : Nat) (a b : Int) : phalaropelaw01_UtfOne.j0 (k + 1) a b true true = some true := by
  rw [phalaropelaw01_UtfOne.j0, if_pos rfl]
theorem one1 (k : Nat) (a b : Int) (lo hi : Nat) (h1 : mn a b = lo) (h2 : mx a b = hi) (o1 : okC lo) (o2 : okC hi) (hle : lo ≤ hi) (heq : a = b ↔ lo = hi) : phalaropelaw01_UtfOne.j0 (k + 1) a b true false = some true := by
  obtain ⟨s, e1, n1⟩ := one_text lo o1
  obtain ⟨t, e2, n2⟩ := one_text hi o2
  have z1 := encN_len lo
  have z2 := encN_len hi
  have z3 := enc_mono lo hi hle
  rw [← n1, nats_len] at z1
  rw [← n2, nats_len] at z2
  rw [← n1, ← n2, nats_len, nats_len] at z3
  rw [phalaropelaw01_UtfOne.j0, if_neg (by decide), h1, h2, text _ (by simp), text _ (by simp), Option.bind_some, Option.bind_some, e1, e2]
  rw [if_neg (by simp only; omega), if_neg (by simp only; omega), if_neg (by simp only; omega), if_pos rfl, if_pos rfl, if_pos rfl]
  by_cases h : lo = hi
  · rw [if_pos (heq.2 h), if_pos (by subst h; rw [toList_nats, n1, n2])]
  · have hlt : Op.bytesLess s.toList t.toList = true := by
      rw [less_nats, ByteArray.toList_eq, ByteArray.toList_eq]
      show natsLess (nats s) (nats t) = true
      rw [n1, n2]
      exact enc_less lo hi (by unfold okC at o2; omega) (by omega)
    have hne : ((t.extract 0 s.size).toList != s.toList) = true := by
      rw [bne_iff_ne]
      intro hh
      rw [toList_nats, nats_extract, List.drop_zero, Nat.sub_zero, n1, n2] at hh
      apply h
      have hs : s.size = (encN lo).length := by rw [← n1, nats_len]
      refine (enc_inj o1 o2 (r := (encN hi).drop s.size) (q := []) ?_).1
      rw [← hh, List.take_append_drop, List.append_nil]
    rw [if_neg (fun e => h (heq.1 e)), if_pos hlt, if_pos (by simp only; omega), if_pos (by simp only; omega)]
    simp only [Int.toNat_natCast]
    rw [hne]
theorem UtfOne : phalaropelaw01_UtfOne.Pure := by
  intro a b ha hb
  refine ⟨0 + 1, ?_⟩
  unfold phalaropelaw01_UtfOne.f
  rw [awake, Option.bind_some, may_utf, may_utf, Option.bind_some, Option.bind_some]
  by_cases h1 : mayI a = true
  · rw [if_pos h1]
    by_cases h2 : mayI b = true
    · obtain ⟨c, rfl, o1⟩ := mayI_ok h1
      obtain ⟨d, rfl, o2⟩ := mayI_ok h2
      rw [h2]
      by_cases h : c ≤ d
      · exact one1 0 c d c d (by unfold mn; split <;> omega) (by unfold mx; split <;> omega) o1 o2 h (by omega)
      · exact one1 0 c d d c (by unfold mn; split <;> omega) (by unfold mx; split <;> omega) o2 o1 (by omega) (by omega)
    · rw [show mayI b = false from by simpa using h2]
      exact one0 0 a b
  · rw [if_neg h1]
    exact one0 0 a b

end Go.Proofs.Ytjjmfmlgemdjkaa.Pure
