/- The law PctBack, out of what its functions tell. -/
import Derived.Test.YtmondgamackcgaaPctO
import Derived.Test.YtmondgamackcgaaPPctx4
import Derived.Test.YtmondgamackcgaaPPctx5
namespace Go.Proofs.Ytmondgamackcgaa.Pure
open Go.RowKit Go.Proofs.Ytmondgamackcgaa.PPct Go.Proofs.YtmondgamackcgaaW.PrintWords Go.Proofs.YtmondgamackcgaaW.PrintLast Go.Proofs.YtmondgamackcgaaW.PrintMore

theorem plain_loop (s : ByteArray) (hs : s.size ≤ 1000000) : ∀ (d i k : Nat), s.size - i = d → i ≤ s.size → d + 1 ≤ k → phalaropelaw03_plain.l0 k s (i : Int) = some (!((nats s).drop i).contains 37)
  | 0, i, k, hd, hi, hk => by
    obtain ⟨k, rfl⟩ : ∃ m, k = m + 1 := ⟨k - 1, by omega⟩
    rw [phalaropelaw03_plain.l0, if_neg (by omega), List.drop_eq_nil_of_le (by rw [nats_len]; omega)]
    rfl
  | d + 1, i, k, hd, hi, hk => by
    obtain ⟨k, rfl⟩ : ∃ m, k = m + 1 := ⟨k - 1, by omega⟩
    rw [phalaropelaw03_plain.l0, if_pos (by omega), if_pos (by omega), bt_nat, drop_at s i (by omega), List.contains_cons, wrap_id (by omega) (by omega)]
    by_cases h : (nats s).getD i 0 = 37
    · rw [if_pos (by omega), beq_iff_eq.2 h.symm]
      rfl
    · rw [if_neg (by omega), beq_eq_false_iff_ne.2 (fun e => h e.symm), Bool.false_or]
      exact plain_loop s hs d (i + 1) k (by omega) (by omega) (by omega)
theorem PctBack : phalaropelaw03_PctBack.Pure := by
  intro s _
  refine ⟨2001, ?_⟩
  generalize hk : 2001 = k
  unfold phalaropelaw03_PctBack.f
  rw [awake3, Option.bind_some]
  by_cases h1 : (s.size : Int) > 2000
  · rw [if_pos h1]
  have e1 := enc_size s false
  have e2 := enc_size s true
  have d1 := dec_enc (nats s) (nats_byte s)
  have d2 := dec_keep (nats s) (nats_byte s)
  have y1 : (decL 0 (encL false (nats s))).2 = true := by rw [d1]
  have t1 : (bytesN (decL 0 (encL false (nats s))).1).toList = s.toList := by rw [d1, toList_nats]; exact nats_bytesN (nats_byte s)
  have hp := plain_loop s (by omega) s.size 0 k (by omega) (by omega) (by omega)
  rw [List.drop_zero, show ((0 : Nat) : Int) = 0 from rfl] at hp
  rw [if_neg h1, enc_f s false (by omega), Option.bind_some, dec_f _ (by omega), Option.bind_some, enc_f s true (by omega), Option.bind_some, dec_f _ (by omega), Option.bind_some, if_pos rfl, enc_nats, enc_nats, DL_yes y1, DL_yes d2.1, if_pos rfl, if_pos t1, if_pos rfl]
  unfold phalaropelaw03_plain.f
  rw [hp, Option.bind_some]
  by_cases hc : (nats s).contains 37 = true
  · rw [hc]
    rfl
  · have hc' : (nats s).contains 37 = false := by simpa using hc
    have hn : 37 ∉ nats s := by simpa using hc
    have t2 : (bytesN (decL 0 (encL true (nats s))).1).toList = s.toList := by rw [d2.2 hn, toList_nats]; exact nats_bytesN (nats_byte s)
    rw [hc', if_pos (by decide)]
    show some ((bytesN (decL 0 (encL true (nats s))).1).toList == s.toList) = some true
    rw [t2]
    simp
end Go.Proofs.Ytmondgamackcgaa.Pure
