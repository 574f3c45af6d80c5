/- Plain: the reference's May, Take and Fits tell what ucs tells. -/
import Derived.Test.YtjjmfmlgemdjkaaUcsQ
import Derived.Test.YtjjmfmlgemdjkaaPureUcsPlanes
namespace Go.Proofs.Ytjjmfmlgemdjkaa.Pure
open Go.RowKit Go.Proofs.Ytjjmfmlgemdjkaa.PUcs Go.Proofs.YtjjmfmlgemdjkaaW.PrintWords Go.Proofs.YtjjmfmlgemdjkaaW.PrintLast Go.Proofs.YtjjmfmlgemdjkaaW.PrintMore

theorem mayf_ref (c : Int) : phalaroperef04_May.f c = some (mayB c) := by
  unfold phalaroperef04_May.f
  have e : 0 ≤ c → Int.tmod c 65536 = c % 65536 := fun h => Int.tmod_eq_emod_of_nonneg h
  repeat' split
  all_goals refine congrArg some (may_is ?_).symm
  all_goals first
    | (rw [e (by omega), decide_eq_true_eq]; unfold MayP; omega)
    | (rw [decide_eq_true_eq]; unfold MayP; omega)
    | (unfold MayP; simp; omega)

theorem take_both (s : ByteArray) (hs : s.size ≤ 1000000) (k : Nat) (hk : 30 ≤ k) : ∃ p, ucs_Take.f (k + 2) s = some p ∧ phalaroperef04_Take.f (k + 2) s = some p := by
  by_cases h : nats s = [] ∨ stopL (nats s)
  · refine ⟨(0, 0), take_none s hs (k + 1) (chars_none h), ?_⟩
    unfold phalaroperef04_Take.f
    rw [first_no s h (k + 2) (by omega), Option.bind_some, if_pos rfl]
  · have h0 : nats s ≠ [] := fun e => h (.inl e)
    have h1 : ¬ stopL (nats s) := fun e => h (.inr e)
    obtain ⟨hc, hq, hm⟩ := enc_dec (nats s) h0 (nats_byte s) h1
    obtain ⟨r, hr⟩ := chars_some hc hq
    have hl := (encN_len (dec (nats s)).1).1
    refine ⟨_, take_some s hs k hr, ?_⟩
    unfold phalaroperef04_Take.f
    rw [first_yes s h0 h1 (k + 2) (by omega), Option.bind_some]
    rw [if_neg (by rw [hm]; show ¬ (((encN (dec (nats s)).1).length : Nat) : Int) = 0; omega), mayf_ref, Option.bind_some, hm]
    dsimp only
    by_cases hmm : mayB (((dec (nats s)).1 : Nat) : Int) = true
    · rw [if_pos hmm, if_pos hmm]
    · rw [if_neg hmm, if_neg hmm]

theorem some_loop (hi : Int) (hh : hi ≤ 2000000) : ∀ (d : Nat) (lo : Int) (k : Nat), hi + 1 - lo ≤ d → d < k → 0 ≤ lo → lo ≤ 3000001 → ∃ b, phalaroperef04_some.l0 k hi lo = some b ∧ (b = true ↔ ∃ c, lo ≤ c ∧ c ≤ hi ∧ MayP c)
  | d, lo, 0, _, hk, _, _ => by omega
  | 0, lo, k + 1, hd, hk, h0, h1 => by
    refine ⟨false, ?_, ?_⟩
    · rw [phalaroperef04_some.l0, if_neg (by omega)]
    · constructor
      · intro h; cases h
      · rintro ⟨c, h2, h3, _⟩; omega
  | d + 1, lo, k + 1, hd, hk, h0, h1 => by
    rw [phalaroperef04_some.l0]
    by_cases hle : lo ≤ hi
    · rw [if_pos hle, mayf_ref, Option.bind_some]
      by_cases hm : mayB lo = true
      · rw [if_pos hm]
        exact ⟨true, rfl, fun _ => ⟨lo, Int.le_refl _, hle, mayB_true.1 hm⟩, fun _ => rfl⟩
      · rw [if_neg hm, wrap_id (by omega) (by omega)]
        obtain ⟨b, hb, hi'⟩ := some_loop hi hh d (lo + 1) k (by omega) (by omega) (by omega) (by omega)
        refine ⟨b, hb, hi'.trans ⟨fun ⟨c, h2, h3, h4⟩ => ⟨c, by omega, h3, h4⟩, fun ⟨c, h2, h3, h4⟩ => ⟨c, ?_, h3, h4⟩⟩⟩
        rcases Int.lt_or_eq_of_le h2 with h5 | h5
        · omega
        · exact absurd (mayB_true.2 (by rw [h5]; exact h4)) hm
    · rw [if_neg hle]
      exact ⟨false, rfl, fun h => (by cases h), fun ⟨c, h2, h3, _⟩ => by omega⟩

def YL : List Int := [0, 0, 128, 2048, 65536]
def ZL : List Int := [0, 0, 2047, 65535, 1114111]
theorem fits_range {l : List Nat} (h0 : l ≠ []) {lo hi : Int} (h : ∀ c : Nat, 160 ≤ c → c ≤ 1114111 → (l <+: encN c ↔ lo ≤ (c : Int) ∧ (c : Int) ≤ hi)) : (∃ c, lo ≤ c ∧ c ≤ hi ∧ MayP c) ↔ fitsP l := by
  constructor
  · rintro ⟨c, h1, h2, h3⟩
    obtain ⟨d, rfl⟩ : ∃ d : Nat, c = d := ⟨c.toNat, by unfold MayP at h3; omega⟩
    exact ⟨h0, d, h3, (h d (by unfold MayP at h3; omega) (by unfold MayP at h3; omega)).2 ⟨h1, h2⟩⟩
  · rintro ⟨_, d, h3, hp⟩
    obtain ⟨h1, h2⟩ := (h d (by unfold MayP at h3; omega) (by unfold MayP at h3; omega)).1 hp
    exact ⟨d, h1, h2, h3⟩

theorem ref_byte (s : ByteArray) (i x : Nat) (n : Int) (k : Nat) (hi : i < s.size) (hs : s.size ≤ 1000000) (hx : x < 16777216) (h1 : 128 ≤ (nats s).getD i 0) (h2 : (nats s).getD i 0 ≤ 191) :
    phalaroperef04_Fits.l0 (k + 1) s n YL ZL (x : Int) (i : Int) = phalaroperef04_Fits.l0 k s n YL ZL ((64 * x + ((nats s).getD i 0 - 128) : Nat) : Int) ((i + 1 : Nat) : Int) := by
  rw [phalaroperef04_Fits.l0, if_pos (by omega), if_pos (by omega), bt_nat, if_neg (by omega), if_neg (by omega)]
  rw [wrap_id (x := 64 * (x : Int)) (by omega) (by omega), wrap_id (x := (((nats s).getD i 0 : Nat) : Int)) (by omega) (by omega), wrap_id (x := 64 * (x : Int) + (((nats s).getD i 0 : Nat) : Int)) (by omega) (by omega), wrap_id (x := 64 * (x : Int) + (((nats s).getD i 0 : Nat) : Int) - 128) (by omega) (by omega), wrap_id (x := (i : Int) + 1) (by omega) (by omega)]
  rw [show 64 * (x : Int) + (((nats s).getD i 0 : Nat) : Int) - 128 = ((64 * x + ((nats s).getD i 0 - 128) : Nat) : Int) from by omega, show (i : Int) + 1 = ((i + 1 : Nat) : Int) from by omega]
theorem ref_bad (s : ByteArray) (i : Nat) (x n : Int) (k : Nat) (hi : i < s.size) (h : ¬ (128 ≤ (nats s).getD i 0 ∧ (nats s).getD i 0 ≤ 191)) :
    phalaroperef04_Fits.l0 (k + 1) s n YL ZL x (i : Int) = some false := by
  rw [phalaroperef04_Fits.l0, if_pos (by omega), if_pos (by omega), bt_nat]
  by_cases h1 : (((nats s).getD i 0 : Nat) : Int) < 128
  · rw [if_pos h1]
  · rw [if_neg h1, if_pos (by omega)]
theorem ref_end (s : ByteArray) (x n : Int) (k i : Nat) (hi : s.size = i) : phalaroperef04_Fits.l0 (k + 1) s n YL ZL x (i : Int) = phalaroperef04_Fits.l1 k n YL ZL x x (i : Int) := by
  rw [phalaroperef04_Fits.l0, if_neg (by omega), hi]
theorem ref_fill (x h i n : Nat) (k : Nat) (hi : i < n) (hn : n < 5) (hx : x < 16777216) (hh : h < 16777216) :
    phalaroperef04_Fits.l1 (k + 1) (n : Int) YL ZL (x : Int) (h : Int) (i : Int) = phalaroperef04_Fits.l1 k (n : Int) YL ZL ((64 * x : Nat) : Int) ((64 * h + 63 : Nat) : Int) ((i + 1 : Nat) : Int) := by
  rw [phalaroperef04_Fits.l1, if_pos (by omega)]
  rw [wrap_id (x := 64 * (x : Int)) (by omega) (by omega), wrap_id (x := 64 * (h : Int)) (by omega) (by omega), wrap_id (x := 64 * (h : Int) + 63) (by omega) (by omega), wrap_id (x := (i : Int) + 1) (by omega) (by omega)]
  rw [show 64 * (x : Int) = ((64 * x : Nat) : Int) from by omega, show 64 * (h : Int) + 63 = ((64 * h + 63 : Nat) : Int) from by omega, show (i : Int) + 1 = ((i + 1 : Nat) : Int) from by omega]
theorem ref_some {l : List Nat} (h0 : l ≠ []) (x h n : Nat) (k : Nat) (hk : 2000005 ≤ k) (hn : n < 5) (hh : h < 2100000) (hx : x < 2100000)
    (hr : ∀ c : Nat, 160 ≤ c → c ≤ 1114111 → (l <+: encN c ↔ mx (x : Int) (rd YL (n : Int)) ≤ (c : Int) ∧ (c : Int) ≤ mn (h : Int) (rd ZL (n : Int)))) :
    phalaroperef04_Fits.l1 (k + 1) (n : Int) YL ZL (x : Int) (h : Int) (n : Int) = some (fitsB l) := by
  have b1 : 0 ≤ mx (x : Int) (rd YL (n : Int)) ∧ mx (x : Int) (rd YL (n : Int)) ≤ 3000001 := by
    have : ∀ n : Nat, n < 5 → 0 ≤ rd YL (n : Int) ∧ rd YL (n : Int) ≤ 65536 := by decide
    have := this n hn
    unfold mx; split <;> omega
  have b2 : mn (h : Int) (rd ZL (n : Int)) ≤ 2000000 := by
    have : ∀ n : Nat, n < 5 → rd ZL (n : Int) ≤ 1114111 := by decide
    have := this n hn
    unfold mn; split <;> omega
  rw [phalaroperef04_Fits.l1, if_neg (by omega), if_pos (by omega), if_pos (by show (n : Int) < 5; omega), if_pos (by show (n : Int) < 5; omega)]
  unfold phalaroperef04_some.f
  obtain ⟨b, hb, hi⟩ := some_loop (mn (h : Int) (rd ZL (n : Int))) b2 2000002 (mx (x : Int) (rd YL (n : Int))) k (by omega) (by omega) b1.1 b1.2
  rw [hb, Option.bind_some]
  exact congrArg some (fitsB_of (hi.trans (fits_range h0 hr)))

theorem size_ref (a : Nat) (h : a < 256) (k : Nat) : phalaroperef04_size.f (k + 1) (a : Int) = some (if a < 192 ∨ 247 < a then 0 else if a < 224 then 2 else if a < 240 then 3 else 4) := by
  unfold phalaroperef04_size.f
  by_cases h1 : a < 192
  · rw [if_pos (show (a : Int) < 192 by omega), phalaroperef04_size.j0, if_pos rfl, if_pos (show a < 192 ∨ 247 < a by omega)]
  rw [if_neg (show ¬ (a : Int) < 192 by omega)]
  by_cases h2 : 247 < a
  · rw [decide_eq_true (show (a : Int) > 247 by omega), phalaroperef04_size.j0, if_pos rfl, if_pos (show a < 192 ∨ 247 < a by omega)]
  rw [decide_eq_false (show ¬ (a : Int) > 247 by omega), phalaroperef04_size.j0, if_neg (by decide), if_neg (show ¬ (a < 192 ∨ 247 < a) by omega)]
  by_cases h3 : a < 224
  · rw [if_pos h3, if_pos (show (a : Int) < 224 by omega)]
  rw [if_neg h3, if_neg (show ¬ (a : Int) < 224 by omega)]
  by_cases h4 : a < 240
  · rw [if_pos h4, if_pos (show (a : Int) < 240 by omega)]
  · rw [if_neg h4, if_neg (show ¬ (a : Int) < 240 by omega)]

theorem fits_first {a : Nat} {r : List Nat} (h : fitsP (a :: r)) : 192 ≤ a ∧ a ≤ 244 ∧ (a < 224 → r.length ≤ 1) ∧ (a < 240 → r.length ≤ 2) ∧ r.length ≤ 3 := by
  obtain ⟨_, c, hc, hp⟩ := h
  obtain ⟨hok, h160⟩ := may_ok hc
  have h1 : [a] <+: encN c := List.IsPrefix.trans ⟨r, rfl⟩ hp
  have hlen := hp.length_le
  rw [List.length_cons] at hlen
  have hle : c ≤ 1114111 := by unfold okC at hok; omega
  rw [pre1] at h1
  rcases h1 with h1 | h1 | h1 | h1
  · omega
  · rw [enc2 (by omega) (by omega)] at hlen
    simp at hlen
    omega
  · rw [enc3 (by omega) (by omega)] at hlen
    simp at hlen
    omega
  · rw [enc4 (by omega)] at hlen
    simp at hlen
    omega
/-- From its first byte on. -/
theorem ref_start (s : ByteArray) (a : Nat) (r : List Nat) (h : nats s = a :: r) (k : Nat) (h1 : 192 ≤ a) (h2 : a ≤ 247) (n b : Nat) (hn : (a < 224 ∧ n = 2 ∧ b = 192) ∨ (224 ≤ a ∧ a < 240 ∧ n = 3 ∧ b = 224) ∨ (240 ≤ a ∧ n = 4 ∧ b = 240)) (hl : r.length + 1 ≤ n) :
    phalaroperef04_Fits.f (k + 3) s = phalaroperef04_Fits.l0 k s (n : Int) YL ZL ((a - b : Nat) : Int) ((1 : Nat) : Int) := by
  have hsz : s.size = r.length + 1 := by rw [← nats_len, h]; rfl
  have hb0 : bt s 0 = (a : Int) := by
    have := bt_nat s 0
    rw [h] at this
    exact this
  unfold phalaroperef04_Fits.f
  rw [if_neg (fun e => by rw [toList_is, h] at e; cases e), if_pos (by omega), hb0, size_ref a (by omega), Option.bind_some]
  have e1 : (if a < 192 ∨ 247 < a then (0 : Int) else if a < 224 then 2 else if a < 240 then 3 else 4) = (n : Int) := by
    rw [if_neg (by omega)]
    split
    · omega
    · split <;> omega
  rw [e1, if_neg (by omega), decide_eq_false (by omega), phalaroperef04_Fits.j0, if_neg (by decide), Option.bind_some, Option.bind_some, if_pos (by omega), hb0]
  have w : ∀ y : Int, 0 ≤ y → y ≤ 255 → wrap64 (wrap64 (a : Int) - y) = (a : Int) - y := fun y _ _ => by rw [wrap_id (x := (a : Int)) (by omega) (by omega), wrap_id (by omega) (by omega)]
  rw [w 224 (by omega) (by omega), w 192 (by omega) (by omega)]
  have fin : ∀ z : Int, z = ((a - b : Nat) : Int) → phalaroperef04_Fits.j2 (k + 1) s (n : Int) YL ZL z = phalaroperef04_Fits.l0 k s (n : Int) YL ZL ((a - b : Nat) : Int) ((1 : Nat) : Int) := by
    rintro z rfl
    rw [phalaroperef04_Fits.j2]
    rfl
  by_cases h3 : (n : Int) = 3
  · rw [if_pos h3, phalaroperef04_Fits.j1, if_neg (by omega)]
    exact fin _ (by omega)
  · rw [if_neg h3, phalaroperef04_Fits.j1]
    by_cases h4 : (n : Int) = 4
    · rw [if_pos h4, if_pos (by omega), hb0, w 240 (by omega) (by omega)]
      exact fin _ (by omega)
    · rw [if_neg h4]
      exact fin _ (by omega)
theorem rd_2 : rd YL ((2 : Nat) : Int) = 128 ∧ rd ZL ((2 : Nat) : Int) = 2047 := by decide
theorem rd_3 : rd YL ((3 : Nat) : Int) = 2048 ∧ rd ZL ((3 : Nat) : Int) = 65535 := by decide
theorem rd_4 : rd YL ((4 : Nat) : Int) = 65536 ∧ rd ZL ((4 : Nat) : Int) = 1114111 := by decide
theorem not_fits {l : List Nat} (h : ¬ fitsP l) : some false = some (fitsB l) := congrArg some (fitsB_of ⟨fun e => (by cases e), fun e => absurd e h⟩)
theorem not_pre {l : List Nat} (h : ∀ c : Nat, 160 ≤ c → ¬ l <+: encN c) : ¬ fitsP l := fun ⟨_, c, hc, hp⟩ => h c (may_ok hc).2 hp
set_option maxHeartbeats 4000000 in
theorem fits_ref (s : ByteArray) (hs : s.size ≤ 1000000) (k : Nat) (hk : 2000030 ≤ k) : phalaroperef04_Fits.f k s = some (fitsB (nats s)) := by
  obtain ⟨k, rfl⟩ : ∃ m, k = m + 12 := ⟨k - 12, by omega⟩
  have hby := nats_byte s
  have hsz := nats_len s
  match h : nats s with
  | [] =>
    unfold phalaroperef04_Fits.f
    rw [if_pos ((toList_is s []).2 h)]
    exact not_fits fun e => e.1 rfl
  | a :: r =>
    rw [h] at hby hsz
    rw [List.length_cons] at hsz
    have ha : a < 256 := hby a (by simp)
    by_cases hbad : a < 192 ∨ 247 < a
    · have hb0 : bt s 0 = (a : Int) := by
        have := bt_nat s 0
        rw [h] at this
        exact this
      unfold phalaroperef04_Fits.f
      rw [if_neg (fun e => by rw [toList_is, h] at e; cases e), if_pos (by omega), hb0, size_ref a ha, if_pos hbad, Option.bind_some, if_pos rfl, phalaroperef04_Fits.j0, if_pos rfl]
      exact not_fits fun e => by have := fits_first e; omega
    obtain ⟨n, b, hn⟩ : ∃ n b : Nat, (a < 224 ∧ n = 2 ∧ b = 192) ∨ (224 ≤ a ∧ a < 240 ∧ n = 3 ∧ b = 224) ∨ (240 ≤ a ∧ n = 4 ∧ b = 240) := by
      by_cases h3 : a < 224
      · exact ⟨2, 192, by omega⟩
      · by_cases h4 : a < 240
        · exact ⟨3, 224, by omega⟩
        · exact ⟨4, 240, by omega⟩
    by_cases hl : r.length + 1 ≤ n
    · rw [ref_start s a r h (k + 9) (by omega) (by omega) n b hn hl]
      match r, h, hl, hsz, hby with
      | [], h, hl, hsz, hby =>
        rw [ref_end s _ _ _ 1 (by simpa using hsz.symm)]
        rcases hn with ⟨h3, rfl, rfl⟩ | ⟨h3, h4, rfl, rfl⟩ | ⟨h3, rfl, rfl⟩
        · rw [ref_fill _ _ 1 2 _ (by omega) (by omega) (by omega) (by omega)]
          refine ref_some (by simp) _ _ 2 _ (by omega) (by omega) (by omega) (by omega) fun c h1 h2 => ?_
          rw [rd_2.1, rd_2.2, pre1]; unfold mx mn; split <;> split <;> omega
        · rw [ref_fill _ _ 1 3 _ (by omega) (by omega) (by omega) (by omega), ref_fill _ _ 2 3 _ (by omega) (by omega) (by omega) (by omega)]
          refine ref_some (by simp) _ _ 3 _ (by omega) (by omega) (by omega) (by omega) fun c h1 h2 => ?_
          rw [rd_3.1, rd_3.2, pre1]; unfold mx mn; split <;> split <;> omega
        · rw [ref_fill _ _ 1 4 _ (by omega) (by omega) (by omega) (by omega), ref_fill _ _ 2 4 _ (by omega) (by omega) (by omega) (by omega), ref_fill _ _ 3 4 _ (by omega) (by omega) (by omega) (by omega)]
          refine ref_some (by simp) _ _ 4 _ (by omega) (by omega) (by omega) (by omega) fun c h1 h2 => ?_
          rw [rd_4.1, rd_4.2, pre1]; unfold mx mn; split <;> split <;> omega
      | [p], h, hl, hsz, hby =>
        have g1 : (nats s).getD 1 0 = p := by rw [h]; rfl
        by_cases hp : 128 ≤ p ∧ p ≤ 191
        · rw [ref_byte s 1 _ _ _ (by simp at hsz; omega) hs (by omega) (by rw [g1]; omega) (by rw [g1]; omega), g1]
          rw [ref_end s _ _ _ 2 (by simpa using hsz.symm)]
          rcases hn with ⟨h3, rfl, rfl⟩ | ⟨h3, h4, rfl, rfl⟩ | ⟨h3, rfl, rfl⟩
          · refine ref_some (by simp) _ _ 2 _ (by omega) (by omega) (by omega) (by omega) fun c h1 h2 => ?_
            rw [rd_2.1, rd_2.2, pre2]; unfold mx mn; split <;> split <;> omega
          · rw [ref_fill _ _ 2 3 _ (by omega) (by omega) (by omega) (by omega)]
            refine ref_some (by simp) _ _ 3 _ (by omega) (by omega) (by omega) (by omega) fun c h1 h2 => ?_
            rw [rd_3.1, rd_3.2, pre2]; unfold mx mn; split <;> split <;> omega
          · rw [ref_fill _ _ 2 4 _ (by omega) (by omega) (by omega) (by omega), ref_fill _ _ 3 4 _ (by omega) (by omega) (by omega) (by omega)]
            refine ref_some (by simp) _ _ 4 _ (by omega) (by omega) (by omega) (by omega) fun c h1 h2 => ?_
            rw [rd_4.1, rd_4.2, pre2]; unfold mx mn; split <;> split <;> omega
        · rw [ref_bad s 1 _ _ _ (by simp at hsz; omega) (by rw [g1]; exact hp)]
          exact not_fits (not_pre fun c hc => by rw [pre2]; omega)
      | [p, q], h, hl, hsz, hby =>
        have g1 : (nats s).getD 1 0 = p := by rw [h]; rfl
        have g2 : (nats s).getD 2 0 = q := by rw [h]; rfl
        by_cases hp : 128 ≤ p ∧ p ≤ 191
        · rw [ref_byte s 1 _ _ _ (by simp at hsz; omega) hs (by omega) (by rw [g1]; omega) (by rw [g1]; omega), g1]
          by_cases hq : 128 ≤ q ∧ q ≤ 191
          · rw [ref_byte s 2 _ _ _ (by simp at hsz; omega) hs (by omega) (by rw [g2]; omega) (by rw [g2]; omega), g2]
            rw [ref_end s _ _ _ 3 (by simpa using hsz.symm)]
            rcases hn with ⟨h3, rfl, rfl⟩ | ⟨h3, h4, rfl, rfl⟩ | ⟨h3, rfl, rfl⟩
            · simp at hl
            · refine ref_some (by simp) _ _ 3 _ (by omega) (by omega) (by omega) (by omega) fun c h1 h2 => ?_
              rw [rd_3.1, rd_3.2, pre3]; unfold mx mn; split <;> split <;> omega
            · rw [ref_fill _ _ 3 4 _ (by omega) (by omega) (by omega) (by omega)]
              refine ref_some (by simp) _ _ 4 _ (by omega) (by omega) (by omega) (by omega) fun c h1 h2 => ?_
              rw [rd_4.1, rd_4.2, pre3]; unfold mx mn; split <;> split <;> omega
          · rw [show ((1 + 1 : Nat) : Int) = ((2 : Nat) : Int) from rfl, ref_bad s 2 _ _ _ (by simp at hsz; omega) (by rw [g2]; exact hq)]
            exact not_fits (not_pre fun c hc => by rw [pre3]; omega)
        · rw [ref_bad s 1 _ _ _ (by simp at hsz; omega) (by rw [g1]; exact hp)]
          exact not_fits (not_pre fun c hc => by rw [pre3]; omega)
      | [p, q, t], h, hl, hsz, hby =>
        have g1 : (nats s).getD 1 0 = p := by rw [h]; rfl
        have g2 : (nats s).getD 2 0 = q := by rw [h]; rfl
        have g3 : (nats s).getD 3 0 = t := by rw [h]; rfl
        by_cases hp : 128 ≤ p ∧ p ≤ 191
        · rw [ref_byte s 1 _ _ _ (by simp at hsz; omega) hs (by omega) (by rw [g1]; omega) (by rw [g1]; omega), g1]
          by_cases hq : 128 ≤ q ∧ q ≤ 191
          · rw [ref_byte s 2 _ _ _ (by simp at hsz; omega) hs (by omega) (by rw [g2]; omega) (by rw [g2]; omega), g2]
            by_cases ht : 128 ≤ t ∧ t ≤ 191
            · rw [ref_byte s 3 _ _ _ (by simp at hsz; omega) hs (by omega) (by rw [g3]; omega) (by rw [g3]; omega), g3]
              rw [ref_end s _ _ _ 4 (by simpa using hsz.symm)]
              rcases hn with ⟨h3, rfl, rfl⟩ | ⟨h3, h4, rfl, rfl⟩ | ⟨h3, rfl, rfl⟩
              · simp at hl
              · simp at hl
              · refine ref_some (by simp) _ _ 4 _ (by omega) (by omega) (by omega) (by omega) fun c h1 h2 => ?_
                rw [rd_4.1, rd_4.2, pre4]; unfold mx mn; split <;> split <;> omega
            · rw [show ((2 + 1 : Nat) : Int) = ((3 : Nat) : Int) from rfl, ref_bad s 3 _ _ _ (by simp at hsz; omega) (by rw [g3]; exact ht)]
              exact not_fits (not_pre fun c hc => by rw [pre4]; omega)
          · rw [show ((1 + 1 : Nat) : Int) = ((2 : Nat) : Int) from rfl, ref_bad s 2 _ _ _ (by simp at hsz; omega) (by rw [g2]; exact hq)]
            exact not_fits (not_pre fun c hc => by rw [pre4]; omega)
        · rw [ref_bad s 1 _ _ _ (by simp at hsz; omega) (by rw [g1]; exact hp)]
          exact not_fits (not_pre fun c hc => by rw [pre4]; omega)
      | _ :: _ :: _ :: _ :: _, h, hl, hsz, hby =>
        simp at hl
        omega
    · have hb0 : bt s 0 = (a : Int) := by
        have := bt_nat s 0
        rw [h] at this
        exact this
      unfold phalaroperef04_Fits.f
      rw [if_neg (fun e => by rw [toList_is, h] at e; cases e), if_pos (by omega), hb0, size_ref a ha, if_neg hbad, Option.bind_some]
      have e1 : (if a < 224 then (2 : Int) else if a < 240 then 3 else 4) = (n : Int) := by
        split
        · omega
        · split <;> omega
      rw [e1, if_neg (by omega), decide_eq_true (by omega), phalaroperef04_Fits.j0, if_pos rfl]
      exact not_fits fun e => by have := fits_first e; omega
end Go.Proofs.Ytjjmfmlgemdjkaa.Pure
