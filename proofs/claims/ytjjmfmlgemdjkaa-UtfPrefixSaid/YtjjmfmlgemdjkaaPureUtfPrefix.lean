/- The law UtfPrefix, out of what its functions tell. -/
import Derived.Test.YtjjmfmlgemdjkaaUtfO
namespace Go.Proofs.Ytjjmfmlgemdjkaa.Pure
open Go.RowKit Go.Proofs.Ytjjmfmlgemdjkaa.PUtf Go.Proofs.YtjjmfmlgemdjkaaW.PrintWords Go.Proofs.YtjjmfmlgemdjkaaW.PrintLast Go.Proofs.YtjjmfmlgemdjkaaW.PrintMore

theorem u8_range {x : Int} (h : (Lit.int .u8 x).wf = true) : 0 ≤ x ∧ x ≤ 255 := by
  simp [Lit.wf, IntKind.min, IntKind.max, IntKind.signed, IntKind.bits] at h
  omega
theorem mn_len (a : Int) (n : Nat) (h : 0 ≤ a) : ((min a.toNat n : Nat) : Int) = mn a (n : Int) := by
  unfold mn
  split <;> omega
theorem mn_min {a b : Int} (ha : 0 ≤ a) (hb : 0 ≤ b) : min b.toNat a.toNat = (mn a b).toNat := by
  unfold mn
  split <;> omega
theorem pref_none (s : ByteArray) : (prefU s (-1)).toList = [] := by
  rw [ByteArray.toList_eq]
  have h : nats (prefU s (-1)) = [] := by
    rw [pref_nats, show (-1 : Int).toNat = 0 from rfl, List.take_zero]
    rfl
  unfold nats at h
  exact List.map_eq_nil_iff.1 h
theorem pref_pref (s : ByteArray) {a b : Int} (ha : 0 ≤ a) (hb : 0 ≤ b) : (prefU (prefU s a) b).toList = (prefU s (mn a b)).toList := by
  rw [toList_nats, pref_nats, pref_nats, (pref_run s a).1, List.take_take, mn_min ha hb]
theorem pref_cut (s : ByteArray) (a : Int) : (s.extract 0 (prefU s a).size).toList = (prefU s a).toList := by
  rw [toList_nats, nats_extract, List.drop_zero, Nat.sub_zero]
  obtain ⟨q, hq⟩ := pref_of s a
  rw [hq, ← nats_len (prefU s a), List.take_left]
theorem prefix1 (k : Nat) (s : ByteArray) (hs : s.size ≤ 2000) (a b : Int) (ha : 0 ≤ a) (hb : 0 ≤ b) : phalaropelaw01_UtfPrefix.j0 (k + 1) s true a b (prefU s a) false = some true := by
  have hsz := pref_size s a
  obtain ⟨r1, r2⟩ := pref_run s a
  rw [phalaropelaw01_UtfPrefix.j0, if_neg (by decide), if_pos rfl, valid _ (by omega), decide_eq_true r2, Option.bind_some, if_pos rfl, count _ (by omega), count s (by omega), Option.bind_some, Option.bind_some]
  rw [r1, List.length_take, if_pos (mn_len a _ ha), prefx _ b (by omega), prefx s (mn a b) (by omega), Option.bind_some, Option.bind_some]
  rw [if_pos (pref_pref s ha hb), prefx s (-1) (by omega), Option.bind_some, pref_none]
  rfl
theorem UtfPrefix : phalaropelaw01_UtfPrefix.Pure := by
  intro s a b hs ha hb
  obtain ⟨a0, a1⟩ := u8_range ha
  obtain ⟨b0, b1⟩ := u8_range hb
  refine ⟨0 + 1, ?_⟩
  unfold phalaropelaw01_UtfPrefix.f
  rw [awake, Option.bind_some]
  by_cases h1 : (s.size : Int) > 2000
  · rw [if_pos h1]
  have hsz := pref_size s a
  rw [if_neg h1, wrap_id (x := a) (by omega) (by omega), wrap_id (x := b) (by omega) (by omega), prefx s a (by omega), Option.bind_some]
  rw [if_neg (by omega), if_pos (by omega), if_pos (by omega), Int.toNat_natCast, pref_cut, bne_self_eq_false]
  exact prefix1 0 s (by omega) a b a0 b0

end Go.Proofs.Ytjjmfmlgemdjkaa.Pure
