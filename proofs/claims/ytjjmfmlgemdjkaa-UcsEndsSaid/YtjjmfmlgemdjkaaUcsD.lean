/- The contract of ucs.filled: the walk. -/
import Derived.Test.YtjjmfmlgemdjkaaUcsC
import Derived.Test.YtjjmfmlgemdjkaaWWords
namespace Go.Proofs.Ytjjmfmlgemdjkaa
open Go.RowKit

def lenV : Value → Nat
  | .slice _ n _ => n
  | _ => 0
theorem fill_big (c : Nat) (b : Nat) (s : ByteArray) (h : ¬ s.size ≤ 4) : fillU c b s = (0, false) := by
  cases b with
  | zero => rfl
  | succ b => rw [fillU, if_neg h]
theorem byteS_size (c : Nat) : (byteS c).size = 1 := rfl
theorem app_byte (s : ByteArray) (c : Nat) : (s ++ byteS c).size = s.size + 1 := by rw [ByteArray.size_append, byteS_size]
/-- What an append in place leaves. -/
theorem row_put {w : World} {base g : Nat} {cur : Array Value} {fz : Nat × Nat} {t : ByteArray} {c : Nat} (hc : c < 256) (hg : base ≤ g) (h3 : w.heap[g]? = some (.cells cur 5 fz)) (h4 : cur.size ≤ fz.1 ∨ fz = (0, 0)) (hroom : t.size + 1 ≤ cur.size)
    (h7 : ∀ j, j < t.size → cur[j]? = some (.int .u8 (t.data.toList.getD j 0).toNat)) :
    RowX (w.setCells g t.size [.int .u8 c]) base (.slice (some ⟨g, 0, none⟩) (t.size + 1) cur.size) (t ++ byteS c) := by
  have hset : (w.setCells g t.size [.int .u8 c]).heap[g]? = some (.cells (cur.setIfInBounds t.size (.int .u8 c)) 5 fz) := by
    show (w.setCell ⟨g, t.size, none⟩ (.int .u8 c)).heap[g]? = _
    simp only [World.setCell, Array.getElem?_modify, if_true, h3, Option.map_some]
    rfl
  refine ⟨g, cur.size, _, fz, by rw [app_byte], hg, hset, by rw [Array.size_setIfInBounds]; exact h4, by rw [app_byte]; exact hroom, by rw [Array.size_setIfInBounds], fun j hj => ?_⟩
  rw [app_byte] at hj
  have hd : (t ++ byteS c).data.toList = t.data.toList ++ [UInt8.ofNat c] := Go.Joins.data_append t (byteS c)
  have hl : t.data.toList.length = t.size := by rw [Array.length_toList]; rfl
  rw [hd]
  by_cases h : j = t.size
  · subst h
    rw [Array.getElem?_setIfInBounds_self_of_lt (by omega), List.getD_eq_getElem?_getD, List.getElem?_append_right (by omega), hl, Nat.sub_self]
    simp
    omega
  · rw [Array.getElem?_setIfInBounds_ne (by omega), h7 j (by omega), List.getD_eq_getElem?_getD, List.getD_eq_getElem?_getD, List.getElem?_append_left (by omega)]
/-- What an append into a new row leaves. -/
theorem row_new {w : World} {base base' : Nat} {v : Value} {t : ByteArray} {c : Nat} (hc : c < 256) (hb : base' ≤ base) (h : w.ownsRow base 5 1 v (t.size + 1) ((t.data.toList.map fun x => Value.int .u8 (x.toNat : Int)) ++ [.int .u8 c])) : RowX w base' v (t ++ byteS c) := by
  obtain ⟨h1, h2⟩ := h
  rcases h2 with ⟨_, h2⟩ | ⟨g, cap, cur, rfl, hg, hh, hcap, hm, hsz, htk⟩
  · omega
  · refine ⟨g, cap, cur, (0, 0), by rw [app_byte], by omega, hh, .inr rfl, by rw [app_byte]; exact hcap, by omega, fun j hj => ?_⟩
    rw [app_byte] at hj
    have hd : (t ++ byteS c).data.toList = t.data.toList ++ [UInt8.ofNat c] := Go.Joins.data_append t (byteS c)
    have hl : t.data.toList.length = t.size := by rw [Array.length_toList]; rfl
    have he : cur.toList[j]? = (cur.toList.take ((t.size + 1) * 1))[j]? := by rw [List.getElem?_take_of_lt (by omega)]
    rw [← Array.getElem?_toList, he, htk, hd, List.getD_eq_getElem?_getD]
    by_cases h : j = t.size
    · subst h
      rw [List.getElem?_append_right (by simp [hl]), List.getElem?_append_right (by omega), List.length_map, hl, Nat.sub_self]
      simp
      omega
    · rw [List.getElem?_append_left (by rw [List.length_map]; omega), List.getElem?_append_left (by omega), List.getElem?_map, List.getElem?_eq_getElem (by omega)]
      rfl


/-- The first of a row of numbers. -/
theorem first_int {w : World} {base n : Nat} {v : Value} {l : List Nat} (h : w.ownsRow base 3 1 v n (l.map intV)) : ∃ A cap, v = .slice A n cap ∧ (n = 1 → ∃ g, A = some ⟨g, 0, none⟩ ∧ w.cell? ⟨g, 0, none⟩ = some (.int .i64 ((l.getD 0 0 : Nat) : Int))) := by
  have hl : l.length = n := by have := h.1; simpa using this
  rcases h.2 with ⟨rfl, rfl⟩ | ⟨g, cap, cur, rfl, _⟩
  · exact ⟨none, 0, rfl, fun h => by omega⟩
  · refine ⟨_, cap, rfl, fun hn => ⟨g, rfl, ?_⟩⟩
    have hc := h.cells (g := g) rfl 0 (intV (l.getD 0 0)) (by rw [List.getElem?_map, List.getD_eq_getElem?_getD, List.getElem?_eq_getElem (by omega)]; rfl)
    simpa [Addr.add, intV] using hc

theorem olds_of {w2 : World} {g : Nat} {cur : Array Value} {fz : Nat × Nat} {t : ByteArray} {o : Obj} (h : w2.heap[g]? = some (.cells cur 5 fz)) (hcs : ∀ j, j < t.size → cur[j]? = some (.int .u8 (t.data.toList.getD j 0).toNat)) :
    ∀ (j : Nat) (u : Value), (t.data.toList.map fun x => Value.int .u8 (x.toNat : Int))[j]? = some u → (w2.alloc o).cell? ⟨g, 0 + j, none⟩ = some u := by
  intro j u hj
  have hl : t.data.toList.length = t.size := by rw [Array.length_toList]; rfl
  have h3 := (Below.heap_alloc w2 o g (block_lt h)).trans h
  have hlt : j < t.size := by
    have := (List.getElem?_eq_some_iff.1 hj).1
    rw [List.length_map, hl] at this
    exact this
  rw [Nat.zero_add, cell_any h3, hcs j hlt, ← hj, List.getElem?_map, List.getD_eq_getElem?_getD, List.getElem?_eq_getElem (by omega)]
  rfl
theorem spare_of {w2 : World} {g : Nat} {cur : Array Value} {fz : Nat × Nat} {t : ByteArray} {o : Obj} {u : Value} (h : w2.heap[g]? = some (.cells cur 5 fz)) (hfz : cur.size ≤ fz.1 ∨ fz = (0, 0)) :
    t.size + 1 ≤ cur.size → ∀ j, j < [u].length → ((w2.alloc o).cell? ⟨g, 0 + t.size * 1 + j, none⟩).isSome = true ∧ (w2.alloc o).frozen? ⟨g, 0 + t.size * 1 + j, none⟩ = false := by
  intro hr j hj
  have hj0 : j = 0 := by simp at hj; omega
  subst hj0
  rw [show 0 + t.size * 1 + 0 = t.size from by omega]
  exact row_spare ((Below.heap_alloc w2 o g (block_lt h)).trans h) hfz t.size (by omega)
theorem infoU8 : (Try.prog.info? 5).map (fun i => (i.zero, i.size, i.bytes)) = some (some (.int .u8 0), 1, 1) := by kernel_rfl

set_option maxRecDepth 100000 in
set_option maxHeartbeats 8000000 in
theorem filled_any (s : ByteArray) (hs : s.size ≤ 1000000) (c : Nat) (hc : c < 256) (w : World) :
    Calls Try.prog 80 #[.string s, .int .u8 c] w fun e w' => e = .returned (.tuple #[.int .i64 ((fillU c 6 s).1 : Nat), .bool (fillU c 6 s).2]) ∧ Below w.heap.size w w' := by
  obtain ⟨i0, hi, hz0, hz1, hz2⟩ := info_parts infoU8
  obtain ⟨v, hcv, hrow⟩ := row_conv w s hs
  have hb0 := Go.Joins.below_bytesWorld w.heap.size w 5 s (Nat.le_refl _)
  generalize Lib.bytesWorld w 5 s = w0 at hcv hrow hb0
  go_enter Try.func80, Try.ntmps80
  go_wp2
  go_loopw [6] (fun x wr => ∃ (t : ByteArray) (b : Nat), RowX wr w.heap.size x t ∧ Hid (fillU c b t = fillU c 6 s) ∧ t.size ≤ 1000006 ∧ 5 ≤ t.size + b ∧ Below w.heap.size w wr) (fun x _ => 5 - lenV x)
  case atStart => exact ⟨s, 6, hrow, Lib.hid rfl, by omega, by omega, hb0⟩
  case round =>
    obtain ⟨t, b, hr, HF, hts, hb, hbel⟩ := hrel
    clear hcv hrow hb0
    have hstr := hr.str
    have Hr := Lib.hid hr
    obtain ⟨g, cap, cur, fz, rfl, hg, hh, hfz, hcap, rfl, hcs⟩ := hr
    by_cases h4 : t.size ≤ 4
    · obtain ⟨b, rfl⟩ : ∃ m, b = m + 1 := ⟨b - 1, by omega⟩
      have h4I : (t.size : Int) ≤ 4 := by omega
      have hl : t.data.toList.length = t.size := by rw [Array.length_toList]; rfl
      have Hh := Lib.hid hh
      have Hcs := Lib.hid hcs
      have Hfz := Lib.hid hfz
      have Hl := Lib.hid hl
      clear hh hcs hfz hl
      by_cases hv : badU t = t.size
      · by_cases h1 : (charsU t).length = 1
        · have Hres : Hid (fillU c 6 s = ((charsU t).getD 0 0, true)) := by
            have := HF.out
            rw [fillU, if_pos h4, if_pos ⟨hv, h1⟩] at this
            exact Lib.hid this.symm
          have hC := chars_yes t (by omega) hv
          rw [h1] at hC
          have HC := Lib.hid hC
          clear HF hv h1 hC
          go_wp2_with (go_at_call 26; (with_reducible refine (HC.out _).mono ?_); rintro e w2 ⟨vl, rfl, hown, hb2⟩; obtain ⟨A, cap1, rfl, hA⟩ := first_int hown; obtain ⟨g1, rfl, hc1⟩ := hA rfl)
          go_ret2
          exact ⟨by rw [Hres.out]; rfl, below_after hbel hb2⟩
        · have Hres : Hid (fillU c b (t ++ byteS c) = fillU c 6 s) := by
            have := HF.out
            rw [fillU, if_pos h4, if_neg (fun h => h1 h.2)] at this
            exact Lib.hid this
          have h1I : (((charsU t).length : Int) == 1) = false := by rw [beq_eq_false_iff_ne]; omega
          have HC := Lib.hid (chars_yes t (by omega) hv)
          clear HF hv h1
          go_wp2_with (first | (go_at_call 26; (with_reducible refine (HC.out _).mono ?_); rintro e w2 ⟨vl, rfl, hown, hb2⟩; obtain ⟨A, cap1, rfl, hA⟩ := first_int hown; clear hA; have hh2 := block_below Hh.out hb2; have HH2 := Lib.hid hh2) | (at_builtin; refine wpList_append_arg _ rfl _ _ 45 rfl 5 i0 (.int .u8 0) 1 1 Try.underlying45 hi hz0 hz1 hz2 rfl (by decide) g 0 t.size cur.size (t.data.toList.map fun x => Value.int .u8 (x.toNat : Int)) rfl ?lo ?olds ⟨w2.heap.size, 0, none⟩ 1 1 [.int .u8 c] rfl rfl ?c1 ?c2 ?sp ?ml ?bt ?room ?grow))
          case lo => rw [List.length_map, Hl.out]; omega
          case olds => exact olds_of HH2.out Hcs.out
          case c1 => exact cell_one _ _ _
          case c2 => intro u hu; simp at hu; subst hu; rfl
          case sp => exact spare_of HH2.out Hfz.out
          case ml => unfold maxLen; omega
          case bt => omega
          case room =>
            intro hroom
            try rw [Nat.zero_add, Nat.mul_one]
            have R := row_put hc hg ((Below.heap_alloc w2 (.cells #[.int .u8 c] 5) g (block_lt HH2.out)).trans HH2.out) Hfz.out hroom Hcs.out
            have hbb : Below w.heap.size w ((w2.alloc (.cells #[.int .u8 c] 5)).setCells g t.size [.int .u8 c]) := below_cells ((below_after hbel hb2).alloc (Nat.le_trans hbel.size hb2.size) _) hg _ _
            generalize (w2.alloc (.cells #[.int .u8 c] 5)).setCells g t.size [.int .u8 c] = w4 at R hbb ⊢
            clear hstr
            go_wp2
            go_roundw
            case rel => exact ⟨t ++ byteS c, b, R, Hres, by rw [app_byte]; omega, by rw [app_byte]; omega, hbb⟩
            case measure => simp [lenV]; omega
          case grow =>
            intro hroom v' w4 hown' hgrow
            have hsz2 := Nat.le_trans hbel.size hb2.size
            have R := row_new (base' := w.heap.size) hc (Nat.le_trans hsz2 (by simp)) hown'
            have hbb : Below w.heap.size w w4 := ((below_after hbel hb2).alloc hsz2 _).grown hgrow (Nat.le_trans hsz2 (by simp)) (fun k hk => by cases hk)
            obtain ⟨g', cap', rfl⟩ := ownsRow_succ hown'
            clear hstr hown' hgrow
            go_wp2
            go_roundw
            case rel => exact ⟨t ++ byteS c, b, R, Hres, by rw [app_byte]; omega, by rw [app_byte]; omega, hbb⟩
            case measure => simp [lenV]; omega
      · have Hres : Hid (fillU c b (t ++ byteS c) = fillU c 6 s) := by
          have := HF.out
          rw [fillU, if_pos h4, if_neg (fun h => hv h.1)] at this
          exact Lib.hid this
        have HC := Lib.hid (chars_no t (by omega) (Nat.lt_of_le_of_ne (badU_le t) hv))
        clear HF hv
        go_wp2_with (first | (go_at_call 26; (with_reducible refine (HC.out _).mono ?_); rintro e w2 ⟨rfl, hb2⟩; have hh2 := block_below Hh.out hb2; have HH2 := Lib.hid hh2) | (at_builtin; refine wpList_append_arg _ rfl _ _ 45 rfl 5 i0 (.int .u8 0) 1 1 Try.underlying45 hi hz0 hz1 hz2 rfl (by decide) g 0 t.size cur.size (t.data.toList.map fun x => Value.int .u8 (x.toNat : Int)) rfl ?lo ?olds ⟨w2.heap.size, 0, none⟩ 1 1 [.int .u8 c] rfl rfl ?c1 ?c2 ?sp ?ml ?bt ?room ?grow))
        case lo => rw [List.length_map, Hl.out]; omega
        case olds => exact olds_of HH2.out Hcs.out
        case c1 => exact cell_one _ _ _
        case c2 => intro u hu; simp at hu; subst hu; rfl
        case sp => exact spare_of HH2.out Hfz.out
        case ml => unfold maxLen; omega
        case bt => omega
        case room =>
          intro hroom
          try rw [Nat.zero_add, Nat.mul_one]
          have R := row_put hc hg ((Below.heap_alloc w2 (.cells #[.int .u8 c] 5) g (block_lt HH2.out)).trans HH2.out) Hfz.out hroom Hcs.out
          have hbb : Below w.heap.size w ((w2.alloc (.cells #[.int .u8 c] 5)).setCells g t.size [.int .u8 c]) := below_cells ((below_after hbel hb2).alloc (Nat.le_trans hbel.size hb2.size) _) hg _ _
          generalize (w2.alloc (.cells #[.int .u8 c] 5)).setCells g t.size [.int .u8 c] = w4 at R hbb ⊢
          clear hstr
          go_wp2
          go_roundw
          case rel => exact ⟨t ++ byteS c, b, R, Hres, by rw [app_byte]; omega, by rw [app_byte]; omega, hbb⟩
          case measure => simp [lenV]; omega
        case grow =>
          intro hroom v' w4 hown' hgrow
          have hsz2 := Nat.le_trans hbel.size hb2.size
          have R := row_new (base' := w.heap.size) hc (Nat.le_trans hsz2 (by simp)) hown'
          have hbb : Below w.heap.size w w4 := ((below_after hbel hb2).alloc hsz2 _).grown hgrow (Nat.le_trans hsz2 (by simp)) (fun k hk => by cases hk)
          obtain ⟨g', cap', rfl⟩ := ownsRow_succ hown'
          clear hstr hown' hgrow
          go_wp2
          go_roundw
          case rel => exact ⟨t ++ byteS c, b, R, Hres, by rw [app_byte]; omega, by rw [app_byte]; omega, hbb⟩
          case measure => simp [lenV]; omega
    · have Hres : Hid (fillU c 6 s = (0, false)) := by rw [← HF.out, fill_big c b t h4]; exact Lib.hid rfl
      have h4I : ¬ (t.size : Int) ≤ 4 := by omega
      clear HF hstr hh hcs hfz
      go_wp2
      go_ret2
      exact ⟨by rw [Hres.out]; rfl, hbel⟩
end Go.Proofs.Ytjjmfmlgemdjkaa
