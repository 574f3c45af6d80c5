/- The contract of pct.Encode with keep. -/
import Derived.Test.YtmondgamackcgaaPctG
namespace Go.Proofs.Ytmondgamackcgaa
open Go.RowKit


set_option maxRecDepth 100000 in
set_option maxHeartbeats 8000000 in
theorem encode_yes (s : ByteArray) (hs : s.size ≤ 1000000) (w : World) :
    Calls Try.prog 50 #[.string s, .bool true] w fun e w' => e = .returned (.string (bytesN (encL true (nats s)))) ∧ Below w.heap.size w w' := by
  have cU := unreserved_any
  have cR := reserved_any
  have cN := fun (b cap : Nat) (w : World) => union_any [unreservedS, reservedS] b cap w (by simp)
  unfold setV wordsA at cU cR cN
  go_enter Try.func50, Try.ntmps50
  go_wp2_with fail
  refine (cU _).mono ?_
  rintro e w1 ⟨rfl, hb1⟩
  go_wp2_with fail
  obtain ⟨wa, hwa⟩ : ∃ wa : World, wa = w1.alloc (.cells (wordsA unreservedS) 25) := ⟨_, rfl⟩
  have hA : wa.heap[w1.heap.size]? = some (.cells (wordsA unreservedS) 25 (0, 0)) := by rw [hwa]; exact heap_alloc_new _ _
  have hbel : Below w.heap.size w wa := by rw [hwa]; exact hb1.alloc hb1.size _
  have hz : w1.heap.size + 1 ≤ wa.heap.size := by rw [hwa]; simp
  unfold wordsA at hwa
  rw [← hwa]
  clear hwa
  obtain ⟨k0, k1, k2, k3⟩ := cells4_below hA (Below.refl wa.heap.size wa).drew
  have HA := Lib.hid hA
  clear hA
  go_region_with (first | (go_at_call 37; (with_reducible refine (cR _).mono ?_); rintro e w2 ⟨rfl, hb2⟩; have hb2' : Below wa.heap.size wa w2 := below_after (Below.refl wa.heap.size wa).drew hb2; obtain ⟨m0, m1, m2, m3⟩ := cells4_below HA.out hb2') | (go_at_call 24; refine (cN w2.heap.size 2 _ (by simp) (fun j i hj hi => rowOf_new w2 [unreservedS, reservedS] j i hj hi)).mono ?_; rintro e w3 ⟨rfl, hb3⟩; have hb3' : Below wa.heap.size wa w3 := below_after hb2' (below_2 hb3); obtain ⟨f0, f1, f2, f3⟩ := free4_below HA.out hb3'; obtain ⟨n0, n1, n2, n3⟩ := cells4_below HA.out hb3'))
  all_goals
    have HS0 := Lib.hid (setCells4 (block_below HA.out hb3') (anyOf [unreservedS, reservedS]))
    have hbelb : Below w.heap.size w _ := below4 (below_after hbel hb3') hb1.size (.int .u64 (wd (anyOf [unreservedS, reservedS]) 0 : Nat)) (.int .u64 (wd (anyOf [unreservedS, reservedS]) 1 : Nat)) (.int .u64 (wd (anyOf [unreservedS, reservedS]) 2 : Nat)) (.int .u64 (wd (anyOf [unreservedS, reservedS]) 3 : Nat))
    generalize ((((w3.setCell ⟨w1.heap.size, 0, none⟩ (.int .u64 (wd (anyOf [unreservedS, reservedS]) 0 : Nat))).setCell ⟨w1.heap.size, 1, none⟩ (.int .u64 (wd (anyOf [unreservedS, reservedS]) 1 : Nat))).setCell ⟨w1.heap.size, 2, none⟩ (.int .u64 (wd (anyOf [unreservedS, reservedS]) 2 : Nat))).setCell ⟨w1.heap.size, 3, none⟩ (.int .u64 (wd (anyOf [unreservedS, reservedS]) 3 : Nat))) = wb at HS0 hbelb
    generalize w1.heap.size = sb at HS0
    have Hbs : wb.heap.size = wb.heap.size := rfl
    have hszb := hbelb.size
    clear k0 k1 k2 k3 HA m0 m1 m2 m3 n0 n1 n2 n3 f0 f1 f2 f3 hb3 hb3' hb2 hb2' hbel hz hb1 cU cR cN
    have hBld : Bld wb.heap.size wb.heap.size (Lib.byteCells []) (wb.alloc (.cells #[.pointer none, .slice none 0 0] 61)) := by have := Lib.fresh_isBuilder 61 5 wb; rw [Hbs] at this; exact this
    have hsb : sb < wb.heap.size := by have := block_lt HS0.out; omega
    have hszB : w.heap.size ≤ wb.heap.size := by omega
    have HS1 := Lib.hid ((Below.heap_alloc wb (.cells #[.pointer none, .slice none 0 0] 61) sb (block_lt HS0.out)).trans HS0.out)
    go_wp2
    go_loopw [16] (fun v wr => ∃ (i : Nat) (acc : List UInt8), v = .int .i64 i ∧ i ≤ s.size ∧ acc.length ≤ 3 * i ∧ Hid (acc ++ bytesU (encL true ((nats s).drop i)) = bytesU (encL true (nats s))) ∧ Hid (wr.heap[sb]? = some (.cells (wordsA (anyOf [unreservedS, reservedS])) 25 (0, 0))) ∧ Hid (Bld wb.heap.size wb.heap.size (Lib.byteCells acc) wr) ∧ wb.heap.size + 1 ≤ wr.heap.size ∧ Hid (Below w.heap.size w wr)) (fun v _ => s.size + 1 - (intOf v).toNat)
    case atStart => exact ⟨0, [], rfl, by omega, by simp, Lib.hid (by rw [List.drop_zero]; rfl), HS1, Lib.hid hBld, by first | (simp; done) | (simp; omega), Lib.hid (hbelb.alloc hszb _)⟩
    case round =>
      obtain ⟨i, acc, rfl, hi, hacc, HR, HS, HB, hz, HW⟩ := hrel
      clear HS1 HS0 hBld hbelb
      by_cases hlt : i < s.size
      · have hcc := byte_lt s i
        have HC := Lib.hid (show (nats s).getD i 0 = (nats s).getD i 0 from rfl)
        have hidx : ∀ w, (Instr.index 9 (.string s) (.int .i64 i)).run Try.prog w = .ok (.int .u8 ((nats s).getD i 0 : Nat)) w := byte_at s i hlt
        have hsl := cut_from s i (by omega)
        have cH := has_any (anyOf [unreservedS, reservedS]) ((nats s).getD i 0) hcc
        have cT := triplet_any (s.extract i s.size) (by rw [ByteArray.size_extract]; omega)
        rw [trip_from] at cT
        have cO := one_in ((nats s).getD i 0) hcc
        have HSt := fun h => Lib.hid (enc_stay (keep := true) hlt h HR.out)
        have HGo := fun h => Lib.hid (enc_goes (keep := true) hlt h HR.out)
        have hset := both_set ((nats s).getD i 0) hcc
        unfold setV wordsA at cH
        have q0 := cell_regrown (cells4 HS.out 0 (by omega))
        have q1 := cell_regrown (cells4 HS.out 1 (by omega))
        have q2 := cell_regrown (cells4 HS.out 2 (by omega))
        have q3 := cell_regrown (cells4 HS.out 3 (by omega))
        have hwb : ∀ (c : Int) w2 acc, acc.length ≤ 3 * s.size → Below wr.heap.size wr w2 → Bld wb.heap.size wb.heap.size (Lib.byteCells acc) w2 → Calls Try.prog 60 #[.pointer (some ⟨wb.heap.size, 0, none⟩), .int .u8 c] w2 fun e w' => e = .returned .nilIface ∧ (BldAt wb.heap.size wb.heap.size (Lib.byteCells acc ++ [.int .u8 c]) w' ∧ Below wb.heap.size w2 w') := fun c w2 acc h1 h2 h3 => writeByte_any _ _ _ c w2 h3 (by rw [Lib.byteCells_length]; omega) (by have := h2.size; omega)
        have hws : ∀ (t : ByteArray) w2 acc, acc.length ≤ 3 * s.size → t.size ≤ 3 → Below wr.heap.size wr w2 → Bld wb.heap.size wb.heap.size (Lib.byteCells acc) w2 → Calls Try.prog 61 #[.pointer (some ⟨wb.heap.size, 0, none⟩), .string t] w2 fun e w' => e = .returned (.tuple #[.int .i64 t.size, .nilIface]) ∧ (BldAt wb.heap.size wb.heap.size (Lib.byteCells acc ++ Lib.strCells t) w' ∧ Below wb.heap.size w2 w') := fun t w2 acc h1 h0 h2 h3 => writeString_any _ _ _ t w2 h3 (by rw [Lib.byteCells_length]; omega) (by have := h2.size; omega)
        have hone : (bytesN (oneN ((nats s).getD i 0))).size = 3 := rfl
        clear HC
        generalize (nats s).getD i 0 = c at hcc hidx cH cO HSt HGo hset hone
        by_cases hu : (unresN c || resvN c) = true
        · rw [hset, hu] at cH
          go_wp2_with fail
          refine wp_region_quiet_below (by kernel_rfl) (by kernel_rfl) ?_
          iterate 14 (go_big_quiet_step (first | (go_at_call 17; exact Calls.regrown_of (cH _)) | (go_at_call 46; exact Calls.regrown_of (cT _))))
          refine wpQuiet_nil ?_
          intro _ hw'
          obtain ⟨⟨dq, osq⟩, hw''⟩ := hw'
          subst hw''
          have hb2 := below_regrown wr dq osq
          generalize Go.Sort.grow (redrawn wr dq) osq = w2 at hb2
          have HB2 := Lib.hid (bld_below HB.out hb2)
          have HS2 := Lib.hid (block_below HS.out hb2)
          clear q0 q1 q2 q3 cH cT HB HS hset
          go_wp2_with (go_at_call 60; refine (hwb _ w2 acc (by omega) hb2 HB2.out).mono ?_)
          rintro e w3 ⟨rfl, hbd, hbel3⟩
          rw [cells_byte acc _ hcc] at hbd
          go_wp2
          go_roundw
          case rel => exact ⟨i + 1, acc ++ [UInt8.ofNat c], by go_num, by omega, by simp; omega, HSt (by rcases Bool.or_eq_true _ _ ▸ hu with h | h <;> simp [stayN, h]), Lib.hid ((hbel3.block sb hsb).trans HS2.out), Lib.hid (.inr hbd), by have := hb2.size; have := hbel3.size; omega, Lib.hid ((HW.out.trans (hb2.mono HW.out.size)).trans (hbel3.mono hszB))⟩
          case measure => simp [intOf]; omega
        · have hu' : (unresN c || resvN c) = false := by simpa using hu
          have hu2 : unresN c = false ∧ resvN c = false := by simpa using hu'
          rw [hset, hu'] at cH
          cases ht : (trip ((nats s).drop i)).isSome with
          | true =>
            rw [ht] at cT
            go_wp2_with fail
            refine wp_region_quiet_below (by kernel_rfl) (by kernel_rfl) ?_
            iterate 14 (go_big_quiet_step (first | (go_at_call 17; exact Calls.regrown_of (cH _)) | (go_at_call 46; exact Calls.regrown_of (cT _))))
            refine wpQuiet_nil ?_
            intro _ hw'
            obtain ⟨⟨dq, osq⟩, hw''⟩ := hw'
            subst hw''
            have hb2 := below_regrown wr dq osq
            generalize Go.Sort.grow (redrawn wr dq) osq = w2 at hb2
            have HB2 := Lib.hid (bld_below HB.out hb2)
            have HS2 := Lib.hid (block_below HS.out hb2)
            clear q0 q1 q2 q3 cH cT HB HS hset
            go_wp2_with (go_at_call 60; refine (hwb _ w2 acc (by omega) hb2 HB2.out).mono ?_)
            rintro e w3 ⟨rfl, hbd, hbel3⟩
            rw [cells_byte acc _ hcc] at hbd
            go_wp2
            go_roundw
            case rel => exact ⟨i + 1, acc ++ [UInt8.ofNat c], by go_num, by omega, by simp; omega, HSt (by simp [stayN, ht]), Lib.hid ((hbel3.block sb hsb).trans HS2.out), Lib.hid (.inr hbd), by have := hb2.size; have := hbel3.size; omega, Lib.hid ((HW.out.trans (hb2.mono HW.out.size)).trans (hbel3.mono hszB))⟩
            case measure => simp [intOf]; omega
          | false =>
            rw [ht] at cT
            go_wp2_with fail
            refine wp_region_quiet_below (by kernel_rfl) (by kernel_rfl) ?_
            iterate 14 (go_big_quiet_step (first | (go_at_call 17; exact Calls.regrown_of (cH _)) | (go_at_call 46; exact Calls.regrown_of (cT _))))
            refine wpQuiet_nil ?_
            intro _ hw'
            obtain ⟨⟨dq, osq⟩, hw''⟩ := hw'
            subst hw''
            have hb2 := below_regrown wr dq osq
            generalize Go.Sort.grow (redrawn wr dq) osq = w2 at hb2
            have HB2 := Lib.hid (bld_below HB.out hb2)
            have HS2 := Lib.hid (block_below HS.out hb2)
            clear q0 q1 q2 q3 cH cT HB HS hset
            go_wp2_with (go_at_call 44; refine (cO _).mono ?_)
            rintro e w4 ⟨rfl, hb4⟩
            have HB4 := Lib.hid (bld_below HB2.out hb4)
            have HS4 := Lib.hid (block_below HS2.out hb4)
            have hb24 := below_after hb2 hb4
            go_wp2_with (go_at_call 61; refine (hws _ w4 acc (by omega) (by omega) hb24 HB4.out).mono ?_)
            rintro e w3 ⟨rfl, hbd, hbel3⟩
            rw [cells_text] at hbd
            go_wp2
            go_roundw
            case rel => exact ⟨i + 1, acc ++ bytesU (oneN c), by go_num, by omega, by rw [List.length_append, show (bytesU (oneN c)).length = 3 from rfl]; omega, HGo (by simp [stayN, ht, hu2.1, hu2.2]), Lib.hid ((hbel3.block sb hsb).trans HS4.out), Lib.hid (.inr hbd), by have := hb24.size; have := hbel3.size; omega, Lib.hid ((HW.out.trans (hb24.mono HW.out.size)).trans (hbel3.mono hszB))⟩
            case measure => simp [intOf]; omega
      · obtain rfl : i = s.size := by omega
        have hfin := enc_done HR.out
        go_wp2_with (go_at_call 62; refine (Try.Builder_String_any wb.heap.size wb.heap.size acc _ HB.out (by omega)).mono ?_)
        rintro e w3 ⟨rfl, hb3⟩
        go_wp2
        go_ret
        refine ⟨?_, HW.out.trans (hb3.mono hszB)⟩
        first | rfl | (rw [hfin]; rfl)
end Go.Proofs.Ytmondgamackcgaa
