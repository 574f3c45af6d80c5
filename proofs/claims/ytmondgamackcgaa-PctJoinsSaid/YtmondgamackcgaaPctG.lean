/- The contract of pct.Encode without keep. -/
import Derived.Test.YtmondgamackcgaaPctF
namespace Go.Proofs.Ytmondgamackcgaa
open Go.RowKit

set_option maxRecDepth 100000 in
set_option maxHeartbeats 8000000 in
theorem encode_no (s : ByteArray) (hs : s.size ≤ 1000000) (w : World) :
    Calls Try.prog 50 #[.string s, .bool false] w fun e w' => e = .returned (.string (bytesN (encL false (nats s)))) ∧ Below w.heap.size w w' := by
  have cU := unreserved_any
  unfold setV wordsA at cU
  go_enter Try.func50, Try.ntmps50
  go_wp2_with fail
  refine (cU _).mono ?_
  rintro e w1 ⟨rfl, hb1⟩
  have HA : Hid ((w1.alloc (.cells (wordsA unreservedS) 25)).heap[w1.heap.size]? = some (.cells (wordsA unreservedS) 25 (0, 0))) := Lib.hid (heap_alloc_new _ _)
  obtain ⟨wb, hwb0⟩ : ∃ wb : World, wb = w1.alloc (.cells (wordsA unreservedS) 25) := ⟨_, rfl⟩
  have HS0 : Hid (wb.heap[w1.heap.size]? = some (.cells (wordsA unreservedS) 25 (0, 0))) := Lib.hid (by rw [hwb0]; exact heap_alloc_new _ _)
  have hbelb : Below w.heap.size w wb := by rw [hwb0]; exact hb1.alloc hb1.size _
  have hszb := hbelb.size
  have Hbs : wb.heap.size = w1.heap.size + 1 := by rw [hwb0]; simp
  unfold wordsA at hwb0
  go_wp2_with fail
  rw [← hwb0]
  clear hwb0 HA cU hb1
  generalize w1.heap.size = sb at HS0 Hbs ⊢
  · skip
    have hBld : Bld (sb + 1) (sb + 1) (Lib.byteCells []) (wb.alloc (.cells #[.pointer none, .slice none 0 0] 61)) := by have := Lib.fresh_isBuilder 61 5 wb; rw [Hbs] at this; exact this
    have hsb : sb < (sb + 1) := by have := block_lt HS0.out; omega
    have hszB : w.heap.size ≤ (sb + 1) := by omega
    have HS1 := Lib.hid ((Below.heap_alloc wb (.cells #[.pointer none, .slice none 0 0] 61) sb (block_lt HS0.out)).trans HS0.out)
    go_wp2
    go_loopw [16] (fun v wr => ∃ (i : Nat) (acc : List UInt8), v = .int .i64 i ∧ i ≤ s.size ∧ acc.length ≤ 3 * i ∧ Hid (acc ++ bytesU (encL false ((nats s).drop i)) = bytesU (encL false (nats s))) ∧ Hid (wr.heap[sb]? = some (.cells (wordsA (unreservedS)) 25 (0, 0))) ∧ Hid (Bld (sb + 1) (sb + 1) (Lib.byteCells acc) wr) ∧ (sb + 1) + 1 ≤ wr.heap.size ∧ Hid (Below w.heap.size w wr)) (fun v _ => s.size + 1 - (intOf v).toNat)
    case atStart => exact ⟨0, [], rfl, by omega, by simp, Lib.hid (by rw [List.drop_zero]; rfl), HS1, Lib.hid hBld, by first | (simp; done) | (simp; omega), Lib.hid (hbelb.alloc hszb _)⟩
    case round =>
      obtain ⟨i, acc, rfl, hi, hacc, HR, HS, HB, hz, HW⟩ := hrel
      clear HS1 HS0 hBld hbelb
      by_cases hlt : i < s.size
      · have hcc := byte_lt s i
        have HC := Lib.hid (show (nats s).getD i 0 = (nats s).getD i 0 from rfl)
        have hidx : ∀ w, (Instr.index 9 (.string s) (.int .i64 i)).run Try.prog w = .ok (.int .u8 ((nats s).getD i 0 : Nat)) w := byte_at s i hlt
        have hsl := cut_from s i (by omega)
        have cH := has_any (unreservedS) ((nats s).getD i 0) hcc
        have cT := triplet_any (s.extract i s.size) (by rw [ByteArray.size_extract]; omega)
        rw [trip_from] at cT
        have cO := one_in ((nats s).getD i 0) hcc
        have HSt := fun h => Lib.hid (enc_stay (keep := false) hlt h HR.out)
        have HGo := fun h => Lib.hid (enc_goes (keep := false) hlt h HR.out)
        have hset := unres_set ((nats s).getD i 0) hcc
        unfold setV wordsA at cH
        have q0 := cell_regrown (cells4 HS.out 0 (by omega))
        have q1 := cell_regrown (cells4 HS.out 1 (by omega))
        have q2 := cell_regrown (cells4 HS.out 2 (by omega))
        have q3 := cell_regrown (cells4 HS.out 3 (by omega))
        have hwb : ∀ (c : Int) w2 acc, acc.length ≤ 3 * s.size → Below wr.heap.size wr w2 → Bld (sb + 1) (sb + 1) (Lib.byteCells acc) w2 → Calls Try.prog 60 #[.pointer (some ⟨(sb + 1), 0, none⟩), .int .u8 c] w2 fun e w' => e = .returned .nilIface ∧ (BldAt (sb + 1) (sb + 1) (Lib.byteCells acc ++ [.int .u8 c]) w' ∧ Below (sb + 1) w2 w') := fun c w2 acc h1 h2 h3 => writeByte_any _ _ _ c w2 h3 (by rw [Lib.byteCells_length]; omega) (by have := h2.size; omega)
        have hws : ∀ (t : ByteArray) w2 acc, acc.length ≤ 3 * s.size → t.size ≤ 3 → Below wr.heap.size wr w2 → Bld (sb + 1) (sb + 1) (Lib.byteCells acc) w2 → Calls Try.prog 61 #[.pointer (some ⟨(sb + 1), 0, none⟩), .string t] w2 fun e w' => e = .returned (.tuple #[.int .i64 t.size, .nilIface]) ∧ (BldAt (sb + 1) (sb + 1) (Lib.byteCells acc ++ Lib.strCells t) w' ∧ Below (sb + 1) w2 w') := fun t w2 acc h1 h0 h2 h3 => writeString_any _ _ _ t w2 h3 (by rw [Lib.byteCells_length]; omega) (by have := h2.size; omega)
        have hone : (bytesN (oneN ((nats s).getD i 0))).size = 3 := rfl
        clear HC
        generalize (nats s).getD i 0 = c at hcc hidx cH cO HSt HGo hset hone
        cases hu : unresN c with
        | true =>
          rw [hset, hu] at cH
          go_wp2_with fail
          refine wp_region_quiet_below (by kernel_rfl) (by kernel_rfl) ?_
          iterate 14 (go_big_quiet_step (first | (go_at_call 17; exact Calls.regrown_of (cH _)) | (go_at_call 46; exact Calls.regrown_of (cT _))))
          refine wpQuiet_nil ?_
          intro _ hw'
          obtain ⟨⟨dq, osq⟩, hw''⟩ := hw'
          subst hw''
          have hb2 := below_regrown wr dq osq
          generalize Go.Sort.grow (redrawn wr dq) osq = w2 at hb2
          have HB2 := Lib.hid (bld_below HB.out hb2)
          have HS2 := Lib.hid (block_below HS.out hb2)
          clear q0 q1 q2 q3 cH cT HB HS hset
          go_wp2_with (go_at_call 60; refine (hwb _ w2 acc (by omega) hb2 HB2.out).mono ?_)
          rintro e w3 ⟨rfl, hbd, hbel3⟩
          rw [cells_byte acc _ hcc] at hbd
          go_wp2
          go_roundw
          case rel => exact ⟨i + 1, acc ++ [UInt8.ofNat c], by go_num, by omega, by simp; omega, HSt (by simp [stayN, hu]), Lib.hid ((hbel3.block sb hsb).trans HS2.out), Lib.hid (.inr hbd), by have := hb2.size; have := hbel3.size; omega, Lib.hid ((HW.out.trans (hb2.mono HW.out.size)).trans (hbel3.mono hszB))⟩
          case measure => simp [intOf]; omega
        | false =>
          rw [hset, hu] at cH
          go_wp2_with fail
          refine wp_region_quiet_below (by kernel_rfl) (by kernel_rfl) ?_
          iterate 14 (go_big_quiet_step (first | (go_at_call 17; exact Calls.regrown_of (cH _)) | (go_at_call 46; exact Calls.regrown_of (cT _))))
          refine wpQuiet_nil ?_
          intro _ hw'
          obtain ⟨⟨dq, osq⟩, hw''⟩ := hw'
          subst hw''
          have hb2 := below_regrown wr dq osq
          generalize Go.Sort.grow (redrawn wr dq) osq = w2 at hb2
          have HB2 := Lib.hid (bld_below HB.out hb2)
          have HS2 := Lib.hid (block_below HS.out hb2)
          clear q0 q1 q2 q3 cH cT HB HS hset
          go_wp2_with (go_at_call 44; refine (cO _).mono ?_)
          rintro e w4 ⟨rfl, hb4⟩
          have HB4 := Lib.hid (bld_below HB2.out hb4)
          have HS4 := Lib.hid (block_below HS2.out hb4)
          have hb24 := below_after hb2 hb4
          go_wp2_with (go_at_call 61; refine (hws _ w4 acc (by omega) (by omega) hb24 HB4.out).mono ?_)
          rintro e w3 ⟨rfl, hbd, hbel3⟩
          rw [cells_text] at hbd
          go_wp2
          go_roundw
          case rel => exact ⟨i + 1, acc ++ bytesU (oneN c), by go_num, by omega, by rw [List.length_append, show (bytesU (oneN c)).length = 3 from rfl]; omega, HGo (by simp [stayN, hu]), Lib.hid ((hbel3.block sb hsb).trans HS4.out), Lib.hid (.inr hbd), by have := hb24.size; have := hbel3.size; omega, Lib.hid ((HW.out.trans (hb24.mono HW.out.size)).trans (hbel3.mono hszB))⟩
          case measure => simp [intOf]; omega
      · obtain rfl : i = s.size := by omega
        have hfin := enc_done HR.out
        go_wp2_with (go_at_call 62; refine (Try.Builder_String_any (sb + 1) (sb + 1) acc _ HB.out (by omega)).mono ?_)
        rintro e w3 ⟨rfl, hb3⟩
        go_wp2
        go_ret
        refine ⟨?_, HW.out.trans (hb3.mono hszB)⟩
        first | rfl | (rw [hfin]; rfl)
end Go.Proofs.Ytmondgamackcgaa
