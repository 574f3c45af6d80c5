/- The law PctURI, out of what its functions tell. -/
import Derived.Test.YtmondgamackcgaaPctO
import Derived.Test.YtmondgamackcgaaPPctx4
import Derived.Test.YtmondgamackcgaaPPctx5
namespace Go.Proofs.Ytmondgamackcgaa.Pure
open Go.RowKit Go.Proofs.Ytmondgamackcgaa.PPct Go.Proofs.YtmondgamackcgaaW.PrintWords Go.Proofs.YtmondgamackcgaaW.PrintLast Go.Proofs.YtmondgamackcgaaW.PrintMore

theorem nats_from (e : ByteArray) (i : Nat) : nats (e.extract i e.size) = (nats e).drop i := by
  rw [nats_extract, List.take_of_length_le (by rw [List.length_drop, nats_len]; exact Nat.le_refl _)]
theorem uri_loop (s e : ByteArray) (keep : Bool) (he : e.size ≤ 1000000) (hU : UriP keep (nats e)) (hF : phalaropelaw03_PctURI.l0 1 s keep true e (e.size : Int) = some true) : ∀ (d i k : Nat), e.size - i = d → i ≤ e.size → d + 30 ≤ k →
    phalaropelaw03_PctURI.l0 k s keep true e (i : Int) = some true
  | 0, i, k, hd, hi, hk => by
    obtain ⟨k, rfl⟩ : ∃ m, k = m + 1 := ⟨k - 1, by omega⟩
    obtain rfl : i = e.size := by omega
    rw [phalaropelaw03_PctURI.l0, if_neg (by omega)] at hF ⊢
    exact hF
  | d + 1, i, k, hd, hi, hk => by
    obtain ⟨k, rfl⟩ : ∃ m, k = m + 1 := ⟨k - 1, by omega⟩
    have ih := uri_loop s e keep he hU hF d (i + 1) k (by omega) (by omega) (by omega)
    have hu := uri_at hU i (by rw [nats_len]; omega)
    rw [drop_at e i (by omega)] at hu
    have hu' : (unresN ((nats e).getD i 0) || (keep && resvN ((nats e).getD i 0)) || (trip ((nats e).drop i)).isSome) = true := by rw [drop_at e i (by omega)]; exact hu
    rw [phalaropelaw03_PctURI.l0, if_pos (by omega), if_pos (by omega), bt_nat, unres_f _ k (by omega), Option.bind_some, wrap_id (by omega) (by omega), show (i : Int) + 1 = ((i + 1 : Nat) : Int) from by omega, ih, resv_f _ k (by omega), Option.bind_some, Int.toNat_natCast, trip_f _ (by rw [ByteArray.size_extract]; omega), Option.bind_some, nats_from]
    rw [if_pos (show (i : Int) ≤ (e.size : Int) by omega)]
    cases h1 : unresN ((nats e).getD i 0)
    · rw [if_neg (by decide)]
      rw [h1, Bool.false_or] at hu'
      cases keep
      · rw [if_neg (by decide), if_pos (by simpa using hu')]
      · rw [if_pos rfl]
        cases h2 : resvN ((nats e).getD i 0)
        · rw [if_neg (by decide)]
          rw [h2] at hu'
          rw [if_pos (by simpa using hu')]
        · rw [if_pos rfl]
    · rw [if_pos rfl]
theorem PctURI : phalaropelaw03_PctURI.Pure := by
  intro s keep _
  refine ⟨7000, ?_⟩
  generalize hk : 7000 = k
  unfold phalaropelaw03_PctURI.f
  rw [awake3, Option.bind_some]
  by_cases h1 : (s.size : Int) > 2000
  · rw [if_pos h1]
  have e1 := enc_size s keep
  have hU := uri_enc keep (nats s) (nats_byte s)
  rw [if_neg h1, enc_f s keep (by omega), Option.bind_some]
  have hF : phalaropelaw03_PctURI.l0 1 s keep true (bytesN (encL keep (nats s))) ((bytesN (encL keep (nats s))).size : Int) = some true := by
    rw [show (1 : Nat) = 0 + 1 from rfl, phalaropelaw03_PctURI.l0, if_neg (by omega), if_pos rfl, enc_f _ true (by omega), Option.bind_some, enc_nats, uri_fix hU, if_pos rfl, decide_eq_true (by omega)]
  exact uri_loop s (bytesN (encL keep (nats s))) keep (by omega) (by rw [enc_nats]; exact hU) hF _ 0 k rfl (by omega) (by omega)
end Go.Proofs.Ytmondgamackcgaa.Pure
