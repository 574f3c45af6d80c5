/- The contract of vname.ends. -/
import Derived.Test.YtmondgamackcgaaDoorPctA
import Derived.Test.YtmondgamackcgaaDoorClassA
import Derived.BigQuiet
import Derived.WalkMore
namespace Go.Proofs.YtmondgamackcgaaDoor
open Go.RowKit

def wordN (c : Nat) : Bool := decide (65 ≤ c ∧ c ≤ 90) || decide (97 ≤ c ∧ c ≤ 122) || decide (48 ≤ c ∧ c ≤ 57) || decide (c = 95)
/-- How far a text begins a name, and how far it is one. -/
def endsS : Nat → List Nat → Nat → Nat → Nat × Nat
  | _, [], p, e => (p, e)
  | k + 1, _ :: r, p, e => endsS k r p e
  | 0, c :: r, p, e =>
    if wordN c = true then endsS 0 r (p + 1) (p + 1)
    else if c = 46 ∧ 0 < p ∧ p = e then endsS 0 r (p + 1) e
    else if (trip (c :: r)).isSome = true then endsS 2 r (p + 3) (p + 3)
    else if c = 37 then (if (hexV (r.getD 0 0)).isSome = true then (p + 2, e) else (p + 1, e))
    else (p, e)
theorem word_set (c : Nat) (h : c < 256) : wordS c = wordN c := by
  have : ∀ c : Fin 256, wordS c.val = wordN c.val := by decide +kernel
  exact this ⟨c, h⟩
theorem hex_set (c : Nat) (h : c < 256) : hexS c = (hexV c).isSome := by
  have : ∀ c : Fin 256, hexS c.val = (hexV c.val).isSome := by decide +kernel
  exact this ⟨c, h⟩
theorem cut_at (s : ByteArray) (p : Nat) (h : p ≤ s.size) (w : World) : (Instr.slice 9 (.string s) (some (.int .i64 p)) none none).run Tryd.prog w = .ok (.string (s.extract p s.size)) w := by
  rw [run_slice_string_l (P := Tryd.prog) w 9 s Tryd.underlying9 .i64 (p : Int) (by omega) (by omega)]
  rfl
theorem trip_at (s : ByteArray) (p : Nat) : tripU (s.extract p s.size) = trip ((nats s).drop p) := by
  unfold tripU
  rw [nats_extract, List.take_of_length_le (by rw [List.length_drop, nats_len]; exact Nat.le_refl _)]
theorem drop_at (s : ByteArray) (i : Nat) (h : i < s.size) : (nats s).drop i = (nats s).getD i 0 :: (nats s).drop (i + 1) := by
  have hl : i < (nats s).length := by rw [nats_len]; exact h
  rw [List.drop_eq_getElem_cons hl, List.getD_eq_getElem?_getD, List.getElem?_eq_getElem hl]
  rfl
theorem trip_fits {s : ByteArray} {p v : Nat} (h : trip ((nats s).drop p) = some v) : p + 3 ≤ s.size := by
  obtain ⟨a, b, r, x, y, e, _⟩ := trip_cons h
  have := congrArg List.length e
  rw [List.length_drop, nats_len] at this
  simp at this
  omega

/-- Steps of ends. -/
theorem es_word {s : ByteArray} {p e : Nat} (hp : p < s.size) (h : wordN ((nats s).getD p 0) = true) : endsS 0 ((nats s).drop p) p e = endsS 0 ((nats s).drop (p + 1)) (p + 1) (p + 1) := by
  rw [drop_at s p hp, endsS, if_pos h]
theorem es_dot {s : ByteArray} {p e : Nat} (hp : p < s.size) (h : wordN ((nats s).getD p 0) = false) (h1 : (nats s).getD p 0 = 46 ∧ 0 < p ∧ p = e) : endsS 0 ((nats s).drop p) p e = endsS 0 ((nats s).drop (p + 1)) (p + 1) e := by
  rw [drop_at s p hp, endsS, if_neg (by rw [h]; decide), if_pos h1]
theorem es_trip {s : ByteArray} {p e : Nat} (hp : p < s.size) (h : wordN ((nats s).getD p 0) = false) (h1 : ¬ ((nats s).getD p 0 = 46 ∧ 0 < p ∧ p = e)) (h2 : (trip ((nats s).drop p)).isSome = true) : endsS 0 ((nats s).drop p) p e = endsS 0 ((nats s).drop (p + 3)) (p + 3) (p + 3) := by
  obtain ⟨v, hv⟩ := Option.isSome_iff_exists.1 h2
  obtain ⟨a, b, r, x, y, e', _⟩ := trip_cons hv
  have hd : (nats s).drop (p + 3) = r := by rw [← List.drop_drop, e']; rfl
  have hc : (nats s).getD p 0 = 37 := by have := drop_at s p hp; rw [e'] at this; injection this with h3 _; exact h3.symm
  rw [hd, e']
  rw [e'] at h2
  rw [hc] at h h1
  rw [endsS, if_neg (by rw [h]; decide), if_neg h1, if_pos h2]
  rfl
theorem es_stop {s : ByteArray} {p e : Nat} (hp : p < s.size) (h : wordN ((nats s).getD p 0) = false) (h1 : ¬ ((nats s).getD p 0 = 46 ∧ 0 < p ∧ p = e)) (h2 : (trip ((nats s).drop p)).isSome = false) (h3 : (nats s).getD p 0 ≠ 37) : endsS 0 ((nats s).drop p) p e = (p, e) := by
  rw [drop_at s p hp] at h2 ⊢
  rw [endsS, if_neg (by rw [h]; decide), if_neg h1, if_neg (by rw [h2]; decide), if_neg h3]
theorem es_pct {s : ByteArray} {p e : Nat} (hp : p < s.size) (h : wordN ((nats s).getD p 0) = false) (h1 : ¬ ((nats s).getD p 0 = 46 ∧ 0 < p ∧ p = e)) (h2 : (trip ((nats s).drop p)).isSome = false) (h3 : (nats s).getD p 0 = 37) : endsS 0 ((nats s).drop p) p e = (if (hexV ((nats s).getD (p + 1) 0)).isSome = true then (p + 2, e) else (p + 1, e)) := by
  have hg : ((nats s).drop (p + 1)).getD 0 0 = (nats s).getD (p + 1) 0 := by simp [List.getD_eq_getElem?_getD]
  rw [drop_at s p hp] at h2 ⊢
  rw [endsS, if_neg (by rw [h]; decide), if_neg h1, if_neg (by rw [h2]; decide), if_pos h3, hg]
theorem es_end {s : ByteArray} {e : Nat} : endsS 0 ((nats s).drop s.size) s.size e = (s.size, e) := by
  rw [List.drop_eq_nil_of_le (by rw [nats_len]; exact Nat.le_refl _)]
  rfl
theorem over_end {s : ByteArray} {p : Nat} (h : s.size ≤ p) : (nats s).getD p 0 = 0 := by rw [List.getD_eq_getElem?_getD, List.getElem?_eq_none (by rw [nats_len]; exact h)]; rfl

set_option maxRecDepth 100000 in
set_option maxHeartbeats 8000000 in
theorem ends_any (s : ByteArray) (hs : s.size ≤ 1000000) (w : World) :
    Calls Tryd.prog 20 #[.string s] w fun e w' => e = .returned (.tuple #[.int .i64 (endsS 0 (nats s) 0 0).1, .int .i64 (endsS 0 (nats s) 0 0).2]) ∧ Below w.heap.size w w' := by
  have cW := word_any
  have cX := hex_any
  unfold setV wordsA at cW cX
  go_enter Tryd.func20, Tryd.ntmps20
  go_wp2
  go_step3
  go_wp2_with fail
  refine (cW _).mono ?_
  rintro e w1 ⟨rfl, hb1⟩
  go_wp2_with fail
  refine (cX _).mono ?_
  rintro e w2 ⟨rfl, hb2⟩
  go_wp2_with fail
  go_step3
  go_wp2
  have hb12 : Below w.heap.size w w2 := below_after hb1 hb2
  have HA0 : Hid (((w2.alloc (.cells (wordsA wordS) 38)).alloc (.cells (wordsA hexS) 38)).heap[w2.heap.size]? = some (.cells (wordsA wordS) 38 (0, 0))) := Lib.hid ((Below.heap_alloc _ _ _ (by simp)).trans (heap_alloc_new _ _))
  have HX0 : Hid (((w2.alloc (.cells (wordsA wordS) 38)).alloc (.cells (wordsA hexS) 38)).heap[w2.heap.size + 1]? = some (.cells (wordsA hexS) 38 (0, 0))) := Lib.hid (heap_alloc_last _ _ _ (by simp))
  have hbw : Below w.heap.size w ((w2.alloc (.cells (wordsA wordS) 38)).alloc (.cells (wordsA hexS) 38)) := (hb12.alloc hb12.size _).alloc (by have := hb12.size; simp; omega) _
  unfold wordsA at HA0 HX0 hbw
  generalize ((w2.alloc (.cells #[.int .u64 (wd wordS 0 : Nat), .int .u64 (wd wordS 1 : Nat), .int .u64 (wd wordS 2 : Nat), .int .u64 (wd wordS 3 : Nat)] 38)).alloc (.cells #[.int .u64 (wd hexS 0 : Nat), .int .u64 (wd hexS 1 : Nat), .int .u64 (wd hexS 2 : Nat), .int .u64 (wd hexS 3 : Nat)] 38)) = wb at HA0 HX0 hbw ⊢
  generalize w2.heap.size = B at HA0 HX0 ⊢
  clear hb12 hb1 hb2 cW cX
  go_loopw [6, 7] (fun v6 v7 wr => ∃ p e : Nat, v6 = .int .i64 p ∧ v7 = .int .i64 e ∧ p ≤ s.size ∧ e ≤ p ∧ Hid (endsS 0 ((nats s).drop p) p e = endsS 0 (nats s) 0 0) ∧ Hid (wr.heap[B]? = some (.cells (wordsA wordS) 38 (0, 0))) ∧ Hid (wr.heap[B + 1]? = some (.cells (wordsA hexS) 38 (0, 0))) ∧ Hid (Below w.heap.size w wr)) (fun v6 _ _ => s.size + 3 - (intOf v6).toNat)
  case atStart => exact ⟨0, 0, rfl, rfl, by omega, by omega, Lib.hid (by rw [List.drop_zero]), HA0, HX0, Lib.hid hbw⟩
  case round =>
    obtain ⟨p, e, rfl, rfl, hp, he, HR, HA, HX, HW⟩ := hrel
    clear HA0 HX0 hbw
    by_cases hlt : p < s.size
    · have hcc := byte_lt s p
      have hidx : ∀ w, (Instr.index 9 (.string s) (.int .i64 p)).run Tryd.prog w = .ok (.int .u8 ((nats s).getD p 0 : Nat)) w := byte_at s p hlt
      have hsl := cut_at s p hp
      have cH := has_any wordS ((nats s).getD p 0) hcc
      rw [word_set _ hcc] at cH
      have cT := triplet_any (s.extract p s.size) (by rw [ByteArray.size_extract]; omega)
      rw [trip_at] at cT
      have E1 := fun h => Lib.hid ((es_word (e := e) hlt h).symm.trans HR.out)
      have E2 := fun h h1 => Lib.hid ((es_dot (e := e) hlt h h1).symm.trans HR.out)
      have E3 := fun h h1 h2 => Lib.hid ((es_trip (e := e) hlt h h1 h2).symm.trans HR.out)
      have E4 := fun h h1 h2 h3 => Lib.hid ((es_stop (e := e) hlt h h1 h2 h3).symm.trans HR.out)
      have E5 := fun h h1 h2 h3 => Lib.hid ((es_pct (e := e) hlt h h1 h2 h3).symm.trans HR.out)
      unfold setV wordsA at cH
      obtain ⟨a0, a1, a2, a3⟩ := cells4_below HA.out (Below.refl _ _)
      clear HR
      have hT37 : (nats s).getD p 0 ≠ 37 → (trip ((nats s).drop p)).isSome = false := fun h => by rw [drop_at s p hlt, trip_first h]; rfl
      generalize (nats s).getD p 0 = c at hT37 hcc hidx cH E1 E2 E3 E4 E5
      have hHas : ∀ q, wordN c = q → ∀ w, Calls Tryd.prog 26 #[.agg #[.int .u64 (wd wordS 0 : Nat), .int .u64 (wd wordS 1 : Nat), .int .u64 (wd wordS 2 : Nat), .int .u64 (wd wordS 3 : Nat)], .int .u8 c] w fun e w' => e = .returned (.bool q) ∧ Below w.heap.size w w' := fun q hq w => by rw [← hq]; exact cH w
      clear cH
      cases hw : wordN c with
      | true =>
        have cH := hHas true hw
        have E := E1 hw
        clear hHas E1 E2 E3 E4 E5 hw cT
        go_wp2_with (go_at_call 26; refine (cH _).mono ?_; rintro e' w3 ⟨rfl, hb3⟩)
        go_wp2
        go_roundw
        case rel => exact ⟨p + 1, p + 1, by go_num, by go_num, by omega, by omega, E, Lib.hid (block_below HA.out hb3), Lib.hid (block_below HX.out hb3), Lib.hid (below_after HW.out hb3)⟩
        case measure => simp [intOf]; omega
      | false =>
        have cH := hHas false hw
        by_cases h46 : c = 46
        · by_cases h0 : 0 < p
          · by_cases hpe : p = e
            · have E := E2 hw ⟨h46, h0, hpe⟩
              obtain ⟨x, hx⟩ : ∃ x : Int, x = (p : Int) := ⟨_, rfl⟩
              obtain ⟨y, hy⟩ : ∃ y : Int, y = (e : Int) := ⟨_, rfl⟩
              have hxs : x < (s.size : Int) := by omega
              have hx0 : 0 ≤ x := by omega
              rw [← hx] at hidx hsl ⊢
              rw [← hy]
              have Hx := Lib.hid hx
              have Hy := Lib.hid hy
              have q2 : decide (0 < x) = true := decide_eq_true (by omega)
              have q3 : (x == y) = true := beq_iff_eq.2 (by omega)
              clear hHas E1 E2 E3 E4 E5 hw cT h0 hpe hT37 hx hy
              subst h46
              rw [show ((46 : Nat) : Int) = 46 from rfl] at cH hidx
              go_wp2_with (go_at_call 26; refine (cH _).mono ?_; rintro e' w3 ⟨rfl, hb3⟩)
              go_wp2
              have hx := Hx.out
              have hy := Hy.out
              subst hx
              subst hy
              go_roundw
              case rel => exact ⟨p + 1, e, by go_num, by go_num, by omega, by omega, E, Lib.hid (block_below HA.out hb3), Lib.hid (block_below HX.out hb3), Lib.hid (below_after HW.out hb3)⟩
              case measure => simp [intOf]; omega
            · obtain ⟨x, hx⟩ : ∃ x : Int, x = (p : Int) := ⟨_, rfl⟩
              obtain ⟨y, hy⟩ : ∃ y : Int, y = (e : Int) := ⟨_, rfl⟩
              have hxs : x < (s.size : Int) := by omega
              have hx0 : 0 ≤ x := by omega
              rw [← hx] at hidx hsl ⊢
              rw [← hy]
              have Hx := Lib.hid hx
              have Hy := Lib.hid hy
              have q2 : decide (0 < x) = true := decide_eq_true (by omega)
              have q3 : (x == y) = false := beq_eq_false_iff_ne.2 (by omega)
              have ht := hT37 (by omega)
              have E := E4 hw (fun h => hpe h.2.2) ht (by omega)
              rw [ht] at cT
              clear hHas E1 E2 E3 E4 E5 hw ht hT37 hx hy
              subst h46
              rw [show ((46 : Nat) : Int) = 46 from rfl] at cH hidx
              go_wp2_with (first | (go_at_call 26; refine (cH _).mono ?_; rintro e' w3 ⟨rfl, hb3⟩) | (go_at_call 27; refine (cT _).mono ?_; rintro e' w4 ⟨rfl, hb4⟩))
              go_wp2
              have hx := Hx.out
              have hy := Hy.out
              subst hx
              subst hy
              rw [Exit.noGoto_ret]
              go_ret2
              exact ⟨by rw [← E.out]; rfl, below_after (below_after HW.out hb3) hb4⟩
          · obtain ⟨x, hx⟩ : ∃ x : Int, x = (p : Int) := ⟨_, rfl⟩
            obtain ⟨y, hy⟩ : ∃ y : Int, y = (e : Int) := ⟨_, rfl⟩
            have hxs : x < (s.size : Int) := by omega
            have hx0 : 0 ≤ x := by omega
            rw [← hx] at hidx hsl ⊢
            rw [← hy]
            have Hx := Lib.hid hx
            have Hy := Lib.hid hy
            have q2 : decide (0 < x) = false := decide_eq_false (by omega)
            have ht := hT37 (by omega)
            have E := E4 hw (fun h => h0 h.2.1) ht (by omega)
            rw [ht] at cT
            clear hHas E1 E2 E3 E4 E5 hw ht hT37 hx hy
            subst h46
            rw [show ((46 : Nat) : Int) = 46 from rfl] at cH hidx
            go_wp2_with (first | (go_at_call 26; refine (cH _).mono ?_; rintro e' w3 ⟨rfl, hb3⟩) | (go_at_call 27; refine (cT _).mono ?_; rintro e' w4 ⟨rfl, hb4⟩))
            go_wp2
            have hx := Hx.out
            have hy := Hy.out
            subst hx
            subst hy
            rw [Exit.noGoto_ret]
            go_ret2
            exact ⟨by rw [← E.out]; rfl, below_after (below_after HW.out hb3) hb4⟩
        · have q1 : ((c : Int) == 46) = false := beq_eq_false_iff_ne.2 (by omega)
          have hd : ¬ (c = 46 ∧ 0 < p ∧ p = e) := fun h => h46 h.1
          cases ht : (trip ((nats s).drop p)).isSome with
          | true =>
            rw [ht] at cT
            have E := E3 hw hd ht
            have h3 : p + 3 ≤ s.size := by obtain ⟨v, hv⟩ := Option.isSome_iff_exists.1 ht; exact trip_fits hv
            clear hHas E1 E2 E3 E4 E5 hw ht hd h46
            go_wp2_with (first | (go_at_call 26; refine (cH _).mono ?_; rintro e' w3 ⟨rfl, hb3⟩) | (go_at_call 27; refine (cT _).mono ?_; rintro e' w4 ⟨rfl, hb4⟩))
            go_wp2
            go_roundw
            case rel => exact ⟨p + 3, p + 3, by go_num, by go_num, by omega, by omega, E, Lib.hid (block_below (block_below HA.out hb3) hb4), Lib.hid (block_below (block_below HX.out hb3) hb4), Lib.hid (below_after (below_after HW.out hb3) hb4)⟩
            case measure => simp [intOf]; omega
          | false =>
            rw [ht] at cT
            by_cases h37 : c = 37
            · have q4 : ((c : Int) == 37) = true := beq_iff_eq.2 (by omega)
              have E := E5 hw hd ht h37
              clear hHas E1 E2 E3 E4 E5 hw ht hd h46 h37
              go_wp2_with (first | (go_at_call 26; refine (cH _).mono ?_; rintro e' w3 ⟨rfl, hb3⟩) | (go_at_call 27; refine (cT _).mono ?_; rintro e' w4 ⟨rfl, hb4⟩))
              have hb34 := below_after hb3 hb4
              obtain ⟨x0, x1, x2, x3⟩ := cells4_below HX.out hb34
              have r0 := cell_regrown x0
              have r1 := cell_regrown x1
              have r2 := cell_regrown x2
              have r3 := cell_regrown x3
              clear x0 x1 x2 x3 cH cT a0 a1 a2 a3
              by_cases hl2 : p + 1 < s.size
              · have hc2 := byte_lt s (p + 1)
                have hidx2 : ∀ w, (Instr.index 9 (.string s) (.int .i64 ((p : Int) + 1))).run Tryd.prog w = .ok (.int .u8 ((nats s).getD (p + 1) 0 : Nat)) w := fun w => byte_at s (p + 1) hl2 w
                have cX := has_any hexS ((nats s).getD (p + 1) 0) hc2
                rw [hex_set _ hc2] at cX
                unfold setV wordsA at cX
                have q5 : decide ((p : Int) + 1 < (s.size : Int)) = true := decide_eq_true (by omega)
                generalize (nats s).getD (p + 1) 0 = d at E hidx2 cX
                cases hx : (hexV d).isSome
                all_goals
                  rw [hx] at cX E
                  clear hx
                  go_wp2_with fail
                  refine wp_region_quiet_below (by kernel_rfl) (by kernel_rfl) ?_
                  iterate 11 (go_big_quiet_step ((go_at_call 26; exact Calls.regrown_of (cX _))))
                  refine wpQuiet_nil ?_
                  intro _ hw'
                  obtain ⟨⟨dq, osq⟩, hw''⟩ := hw'
                  subst hw''
                  have hb5 := below_regrown w4 dq osq
                  go_wp2
                  rw [Exit.noGoto_ret]
                  go_ret2
                  exact ⟨by rw [← E.out]; rfl, below_after (below_after HW.out hb34) hb5⟩
              · have q5 : decide ((p : Int) + 1 < (s.size : Int)) = false := decide_eq_false (by omega)
                have E' : Hid ((p + 1, e) = endsS 0 (nats s) 0 0) := Lib.hid (by have := E.out; rw [over_end (by omega)] at this; exact this)
                go_wp2_with fail
                refine wp_region_quiet_below (by kernel_rfl) (by kernel_rfl) ?_
                iterate 11 (go_big_quiet_step (fail))
                refine wpQuiet_nil ?_
                intro _ hw'
                obtain ⟨⟨dq, osq⟩, hw''⟩ := hw'
                subst hw''
                have hb5 := below_regrown w4 dq osq
                go_wp2
                rw [Exit.noGoto_ret]
                go_ret2
                exact ⟨by rw [← E'.out]; rfl, below_after (below_after HW.out hb34) hb5⟩
            · have q4 : ((c : Int) == 37) = false := beq_eq_false_iff_ne.2 (by omega)
              have E := E4 hw hd ht h37
              clear hHas E1 E2 E3 E4 E5 hw ht hd h46 h37
              go_wp2_with (first | (go_at_call 26; refine (cH _).mono ?_; rintro e' w3 ⟨rfl, hb3⟩) | (go_at_call 27; refine (cT _).mono ?_; rintro e' w4 ⟨rfl, hb4⟩))
              go_wp2
              rw [Exit.noGoto_ret]
              go_ret2
              exact ⟨by rw [← E.out]; rfl, below_after (below_after HW.out hb3) hb4⟩
    · obtain rfl : p = s.size := by omega
      have E := Lib.hid (es_end.symm.trans HR.out)
      clear HR
      go_wp2
      rw [Exit.noGoto_ret]
      go_ret2
      exact ⟨by rw [← E.out]; rfl, HW.out⟩
end Go.Proofs.YtmondgamackcgaaDoor
