/- The contracts of pct.each, with Norm's and with Decode's closures, and of Norm and Decode. -/
import Derived.Test.YtmondgamackcgaaPctD
namespace Go.Proofs.Ytmondgamackcgaa
open Go.RowKit

theorem cut_at (s : ByteArray) (p : Nat) (h : p ≤ s.size) (w : World) : (Instr.slice 9 (.string s) (some (.int .i64 p)) none none).run Try.prog w = .ok (.string (s.extract p s.size)) w := by
  rw [run_slice_string_l (P := Try.prog) w 9 s Try.underlying9 .i64 (p : Int) (by omega) (by omega)]
  rfl
theorem trip_at (s : ByteArray) (p : Nat) : tripU (s.extract p s.size) = trip ((nats s).drop p) := by
  unfold tripU
  rw [nats_extract, List.take_of_length_le (by rw [List.length_drop, nats_len]; exact Nat.le_refl _)]
theorem drop_at (s : ByteArray) (i : Nat) (h : i < s.size) : (nats s).drop i = (nats s).getD i 0 :: (nats s).drop (i + 1) := by
  have hl : i < (nats s).length := by rw [nats_len]; exact h
  rw [List.drop_eq_getElem_cons hl, List.getD_eq_getElem?_getD, List.getElem?_eq_getElem hl]
  rfl
theorem trip_fits {s : ByteArray} {p v : Nat} (h : trip ((nats s).drop p) = some v) : p + 3 ≤ s.size := by
  obtain ⟨a, b, r, x, y, e, _⟩ := trip_cons h
  have := congrArg List.length e
  rw [List.length_drop, nats_len] at this
  simp at this
  omega
theorem norm_3 {s : ByteArray} {p v : Nat} (h : trip ((nats s).drop p) = some v) {l T : List UInt8} (hT : l ++ bytesU (normL 0 ((nats s).drop p)) = T) : (l ++ bytesU (oneN v)) ++ bytesU (normL 0 ((nats s).drop (p + 3))) = T := by
  rw [norm_trip h, List.drop_drop] at hT
  rw [← hT]
  simp [bytesU]
theorem norm_1 {s : ByteArray} {p : Nat} (hp : p < s.size) (h : trip ((nats s).drop p) = none) {l T : List UInt8} (hT : l ++ bytesU (normL 0 ((nats s).drop p)) = T) : (l ++ [UInt8.ofNat ((nats s).getD p 0)]) ++ bytesU (normL 0 ((nats s).drop (p + 1))) = T := by
  rw [drop_at s p hp] at h hT
  rw [norm_other h] at hT
  rw [← hT]
  simp [bytesU]
theorem norm_0 {s : ByteArray} {l T : List UInt8} (hT : l ++ bytesU (normL 0 ((nats s).drop s.size)) = T) : l = T := by
  rw [List.drop_eq_nil_of_le (by rw [nats_len]; exact Nat.le_refl _)] at hT
  simpa [normL, bytesU] using hT
theorem dec_3 {s : ByteArray} {p v : Nat} (h : trip ((nats s).drop p) = some v) {g : Bool} {l : List UInt8} {T : List UInt8 × Bool} (hT : (l ++ bytesU (decL 0 ((nats s).drop p)).1, g && (decL 0 ((nats s).drop p)).2) = T) : ((l ++ [UInt8.ofNat v]) ++ bytesU (decL 0 ((nats s).drop (p + 3))).1, g && (decL 0 ((nats s).drop (p + 3))).2) = T := by
  rw [dec_trip h, List.drop_drop] at hT
  rw [← hT]
  simp [bytesU]
theorem dec_1 {s : ByteArray} {p : Nat} (hp : p < s.size) (h : trip ((nats s).drop p) = none) {g : Bool} {l : List UInt8} {T : List UInt8 × Bool} (hT : (l ++ bytesU (decL 0 ((nats s).drop p)).1, g && (decL 0 ((nats s).drop p)).2) = T) : ((l ++ [UInt8.ofNat ((nats s).getD p 0)]) ++ bytesU (decL 0 ((nats s).drop (p + 1))).1, (g && decide ((nats s).getD p 0 ≠ 37)) && (decL 0 ((nats s).drop (p + 1))).2) = T := by
  rw [drop_at s p hp] at h hT
  rw [dec_other h] at hT
  rw [← hT]
  simp only [bytesU, List.map_cons, List.append_assoc, List.singleton_append, Prod.mk.injEq, true_and]
  generalize (decL 0 ((nats s).drop (p + 1))).2 = b
  cases g <;> cases b <;> simp
theorem dec_0 {s : ByteArray} {g : Bool} {l : List UInt8} {T : List UInt8 × Bool} (hT : (l ++ bytesU (decL 0 ((nats s).drop s.size)).1, g && (decL 0 ((nats s).drop s.size)).2) = T) : l = T.1 ∧ g = T.2 := by
  rw [List.drop_eq_nil_of_le (by rw [nats_len]; exact Nat.le_refl _)] at hT
  rw [← hT]
  simp [decL, bytesU]

set_option maxRecDepth 100000 in
set_option maxHeartbeats 8000000 in
theorem each_norm (s : ByteArray) (hs : s.size ≤ 1000000) (w : World) (B : Nat) (hB0 : w.heap[B]? = some (.cells #[.slice none 0 0] 53 (0, 0))) (hBl : B + 1 ≤ w.heap.size) :
    Calls Try.prog 57 #[.string s, .func (Fn.func 63) #[] #[.pointer (some ⟨B, 0, none⟩)], .func (Fn.func 64) #[] #[.pointer (some ⟨B, 0, none⟩)]] w fun e w' => e = .returned (.tuple #[]) ∧ (∃ u, w'.heap[B]? = some (.cells #[u] 53 (0, 0)) ∧ w'.ownsRow w.heap.size 5 1 u (bytesU (normL 0 (nats s))).length ((bytesU (normL 0 (nats s))).map byteV)) ∧ Below B w w' := by
  have HB0 := Lib.hid hB0
  clear hB0
  go_enter Try.func57, Try.ntmps57
  go_wp2
  go_loopw [6] (fun v wr => ∃ (p : Nat) (l : List UInt8) (u : Value), v = .int .i64 p ∧ p ≤ s.size ∧ l.length ≤ 3 * p ∧ Hid (l ++ bytesU (normL 0 ((nats s).drop p)) = bytesU (normL 0 (nats s))) ∧ Hid (wr.heap[B]? = some (.cells #[u] 53 (0, 0))) ∧ Hid (wr.ownsRow w.heap.size 5 1 u l.length (l.map byteV)) ∧ w.heap.size ≤ wr.heap.size ∧ Hid (Below B w wr)) (fun v _ => s.size + 3 - (intOf v).toNat)
  case atStart => exact ⟨0, [], _, rfl, by omega, by simp, Lib.hid (by rw [List.drop_zero]; rfl), HB0, Lib.hid (World.ownsRow_nil _ _ _ _), Nat.le_refl _, Lib.hid (Below.refl _ _)⟩
  case round =>
    obtain ⟨p, l, u, rfl, hp, hlen, HR, HB, HO, hz, HW⟩ := hrel
    clear HB0
    by_cases hlt : p < s.size
    · have hsl := cut_at s p hp
      have hval := value_any (s.extract p s.size) (by rw [ByteArray.size_extract]; omega)
      rw [trip_at] at hval
      have hidx : ∀ w, (Instr.index 9 (.string s) (.int .i64 p)).run Try.prog w = .ok (.int .u8 ((nats s).getD p 0 : Nat)) w := byte_at s p hlt
      have hcc := byte_lt s p
      cases ht : trip ((nats s).drop p) with
      | some v =>
        have h3 := trip_fits ht
        have hv := trip_lt ht
        have HR2 := Lib.hid (norm_3 ht HR.out)
        rw [ht] at hval
        clear hidx HR
        go_wp2_with (go_at_call 56; refine (hval _).mono ?_; rintro e w1 ⟨⟨x, rfl, hx⟩, hb1⟩; obtain rfl := hx v rfl)
        have HB1 := Lib.hid (block_below HB.out hb1)
        have HO1 := Lib.hid (own_below HO.out hb1)
        go_wp2_with (go_at_call 63; refine (put4_any x hv u l B w.heap.size (by omega) _ HB1.out HO1.out (by omega) (by have := hb1.size; omega)).mono ?_; rintro e w2 ⟨rfl, ⟨u2, hB2, hO2⟩, hbel2, hsz2, hab⟩)
        have HB2 := Lib.hid hB2
        have HO2 := Lib.hid hO2
        clear hB2 hO2 hab
        go_roundw
        case rel => exact ⟨p + 3, l ++ bytesU (oneN x), u2, by go_num, h3, by rw [List.length_append, show (bytesU (oneN x)).length = 3 from rfl]; omega, HR2, HB2, HO2, by have := hb1.size; omega, Lib.hid ((HW.out.trans (hb1.mono (by omega))).trans hbel2)⟩
        case measure => simp [intOf]; omega
      | none =>
        have HR2 := Lib.hid (norm_1 hlt ht HR.out)
        rw [ht] at hval
        clear HR
        go_wp2_with (go_at_call 56; refine (hval _).mono ?_; rintro e w1 ⟨⟨x, rfl, hx⟩, hb1⟩; clear hx)
        have HB1 := Lib.hid (block_below HB.out hb1)
        have HO1 := Lib.hid (own_below HO.out hb1)
        go_wp2_with (go_at_call 64; refine (put2_any _ hcc u l B w.heap.size (by omega) _ HB1.out HO1.out (by omega) (by have := hb1.size; omega)).mono ?_; rintro e w2 ⟨rfl, ⟨u2, hB2, hO2⟩, hbel2, hsz2, hab⟩)
        have HB2 := Lib.hid hB2
        have HO2 := Lib.hid hO2
        clear hB2 hO2 hab
        go_roundw
        case rel => exact ⟨p + 1, l ++ [UInt8.ofNat ((nats s).getD p 0)], u2, by go_num, by omega, by simp; omega, HR2, HB2, HO2, by have := hb1.size; omega, Lib.hid ((HW.out.trans (hb1.mono (by omega))).trans hbel2)⟩
        case measure => simp [intOf]; omega
    · obtain rfl : p = s.size := by omega
      have hl := norm_0 HR.out
      subst hl
      clear HR
      go_wp2
      go_end0
      exact ⟨rfl, ⟨u, HB.out, HO.out⟩, HW.out⟩

set_option maxRecDepth 100000 in
set_option maxHeartbeats 8000000 in
theorem each_dec (s : ByteArray) (hs : s.size ≤ 1000000) (w : World) (B : Nat) (hB0 : w.heap[B]? = some (.cells #[.slice none 0 0] 53 (0, 0))) (hG0 : w.heap[B + 1]? = some (.cells #[.bool true] 4 (0, 0))) (hBl : B + 2 ≤ w.heap.size) :
    Calls Try.prog 57 #[.string s, .func (Fn.func 58) #[] #[.pointer (some ⟨B, 0, none⟩)], .func (Fn.func 59) #[] #[.pointer (some ⟨B, 0, none⟩), .pointer (some ⟨B + 1, 0, none⟩)]] w fun e w' => e = .returned (.tuple #[]) ∧ (∃ u, w'.heap[B]? = some (.cells #[u] 53 (0, 0)) ∧ w'.ownsRow w.heap.size 5 1 u (bytesU (decL 0 (nats s)).1).length ((bytesU (decL 0 (nats s)).1).map byteV)) ∧ w'.heap[B + 1]? = some (.cells #[.bool (decL 0 (nats s)).2] 4 (0, 0)) ∧ Below B w w' := by
  have HB0 := Lib.hid hB0
  clear hB0
  have HG0 := Lib.hid hG0
  clear hG0
  go_enter Try.func57, Try.ntmps57
  go_wp2
  go_loopw [6] (fun v wr => ∃ (p : Nat) (l : List UInt8) (g : Bool) (u : Value), v = .int .i64 p ∧ p ≤ s.size ∧ l.length ≤ 3 * p ∧ Hid ((l ++ bytesU (decL 0 ((nats s).drop p)).1, g && (decL 0 ((nats s).drop p)).2) = (bytesU (decL 0 (nats s)).1, (decL 0 (nats s)).2)) ∧ Hid (wr.heap[B]? = some (.cells #[u] 53 (0, 0))) ∧ Hid (wr.heap[B + 1]? = some (.cells #[.bool g] 4 (0, 0))) ∧ Hid (wr.ownsRow w.heap.size 5 1 u l.length (l.map byteV)) ∧ w.heap.size ≤ wr.heap.size ∧ Hid (Below B w wr)) (fun v _ => s.size + 3 - (intOf v).toNat)
  case atStart => exact ⟨0, [], true, _, rfl, by omega, by simp, Lib.hid (by rw [List.drop_zero]; simp), HB0, HG0, Lib.hid (World.ownsRow_nil _ _ _ _), Nat.le_refl _, Lib.hid (Below.refl _ _)⟩
  case round =>
    obtain ⟨p, l, g, u, rfl, hp, hlen, HR, HB, HG, HO, hz, HW⟩ := hrel
    clear HB0 HG0
    by_cases hlt : p < s.size
    · have hsl := cut_at s p hp
      have hval := value_any (s.extract p s.size) (by rw [ByteArray.size_extract]; omega)
      rw [trip_at] at hval
      have hidx : ∀ w, (Instr.index 9 (.string s) (.int .i64 p)).run Try.prog w = .ok (.int .u8 ((nats s).getD p 0 : Nat)) w := byte_at s p hlt
      have hcc := byte_lt s p
      cases ht : trip ((nats s).drop p) with
      | some v =>
        have h3 := trip_fits ht
        have hv := trip_lt ht
        have HR2 := Lib.hid (dec_3 ht HR.out)
        rw [ht] at hval
        clear hidx HR
        go_wp2_with (go_at_call 56; refine (hval _).mono ?_; rintro e w1 ⟨⟨x, rfl, hx⟩, hb1⟩; obtain rfl := hx v rfl)
        have HB1 := Lib.hid (block_below HB.out hb1)
        have HO1 := Lib.hid (own_below HO.out hb1)
        have HG1 := Lib.hid (block_below HG.out hb1)
        go_wp2_with (go_at_call 58; refine (put1_any x hv u l B w.heap.size (by omega) _ HB1.out HO1.out (by omega) (by have := hb1.size; omega)).mono ?_; rintro e w2 ⟨rfl, ⟨u2, hB2, hO2⟩, hbel2, hsz2, hab⟩)
        have HB2 := Lib.hid hB2
        have HO2 := Lib.hid hO2
        have HG2 := Lib.hid ((hab (B + 1) (by omega) (by omega)).trans HG1.out)
        clear hB2 hO2 hab
        go_roundw
        case rel => exact ⟨p + 3, l ++ [UInt8.ofNat x], g, u2, by go_num, h3, by simp; omega, HR2, HB2, HG2, HO2, by have := hb1.size; omega, Lib.hid ((HW.out.trans (hb1.mono (by omega))).trans hbel2)⟩
        case measure => simp [intOf]; omega
      | none =>
        have HR2 := Lib.hid (dec_1 hlt ht HR.out)
        rw [ht] at hval
        clear HR
        go_wp2_with (go_at_call 56; refine (hval _).mono ?_; rintro e w1 ⟨⟨x, rfl, hx⟩, hb1⟩; clear hx)
        have HB1 := Lib.hid (block_below HB.out hb1)
        have HO1 := Lib.hid (own_below HO.out hb1)
        have HG1 := Lib.hid (block_below HG.out hb1)
        go_wp2_with (go_at_call 59; refine (put3_any _ hcc g u l B w.heap.size (by omega) _ HB1.out HG1.out HO1.out (by omega) (by have := hb1.size; omega)).mono ?_; rintro e w2 ⟨rfl, ⟨u2, hB2, hO2⟩, hG2, hbel2, hsz2, hab⟩)
        have HB2 := Lib.hid hB2
        have HO2 := Lib.hid hO2
        have HG2 := Lib.hid hG2
        clear hG2
        clear hB2 hO2 hab
        go_roundw
        case rel => exact ⟨p + 1, l ++ [UInt8.ofNat ((nats s).getD p 0)], g && decide ((nats s).getD p 0 ≠ 37), u2, by go_num, by omega, by simp; omega, HR2, HB2, HG2, HO2, by have := hb1.size; omega, Lib.hid ((HW.out.trans (hb1.mono (by omega))).trans hbel2)⟩
        case measure => simp [intOf]; omega
    · obtain rfl : p = s.size := by omega
      obtain ⟨hl, hg⟩ := dec_0 HR.out
      simp only at hl hg
      subst hl
      subst hg
      clear HR
      go_wp2
      go_end0
      exact ⟨rfl, ⟨u, HB.out, HO.out⟩, HG.out, HW.out⟩


set_option maxHeartbeats 1000000 in
theorem norm_any (s : ByteArray) (hs : s.size ≤ 1000000) (w : World) :
    Calls Try.prog 52 #[.string s] w fun e w' => e = .returned (.string (bytesN (normL 0 (nats s)))) ∧ Below w.heap.size w w' := by
  have hmf : ∀ (fn : Fn) (first cap : Array Value) (w : World), (Instr.makeFunc fn first cap).run Try.prog w = .ok (.func fn first cap) w := fun _ _ _ _ => rfl
  go_enter Try.func52, Try.ntmps52
  go_wp2_with fail
  refine (each_norm s hs _ w.heap.size (heap_alloc_new _ _) (by simp)).mono ?_
  rintro e w1 ⟨rfl, ⟨u, hB, hown⟩, hb1⟩
  have hcv : (convert 53 9 u).run Try.prog w1 = .ok (.string (bytesN (normL 0 (nats s)))) w1 := own_text Try.underlying53 Try.underlying5 Try.underlying9 hown
  have hc : w1.cell? ⟨w.heap.size, 0, none⟩ = some u := cell_of hB 0
  clear hown hB
  go_wp2
  go_ret
  exact ⟨rfl, ((Below.refl _ _).alloc (Nat.le_refl _) _).trans hb1⟩

set_option maxHeartbeats 1000000 in
theorem decode_yes (s : ByteArray) (hs : s.size ≤ 1000000) (hd : (decL 0 (nats s)).2 = true) (w : World) :
    Calls Try.prog 48 #[.string s] w fun e w' => e = .returned (.tuple #[.string (bytesN (decL 0 (nats s)).1), .bool true]) ∧ Below w.heap.size w w' := by
  have hmf : ∀ (fn : Fn) (first cap : Array Value) (w : World), (Instr.makeFunc fn first cap).run Try.prog w = .ok (.func fn first cap) w := fun _ _ _ _ => rfl
  go_enter Try.func48, Try.ntmps48
  go_wp2_with fail
  refine (each_dec s hs _ w.heap.size ((Below.heap_alloc _ _ _ (by simp)).trans (heap_alloc_new _ _)) (heap_alloc_last _ _ _ (by simp)) (by simp)).mono ?_
  rintro e w1 ⟨rfl, ⟨u, hB, hown⟩, hG, hb1⟩
  have hcv : (convert 53 9 u).run Try.prog w1 = .ok (.string (bytesN (decL 0 (nats s)).1)) w1 := own_text Try.underlying53 Try.underlying5 Try.underlying9 hown
  have hc : w1.cell? ⟨w.heap.size, 0, none⟩ = some u := cell_of hB 0
  have hg : w1.cell? ⟨w.heap.size + 1, 0, none⟩ = some (.bool (decL 0 (nats s)).2) := cell_of hG 0
  have hbel : Below w.heap.size w w1 := (((Below.refl _ _).alloc (Nat.le_refl _) _).alloc (by simp) _).trans hb1
  rw [hd] at hg
  clear hown hB hG hb1 hd
  go_wp2
  go_ret2
  exact ⟨rfl, hbel⟩
set_option maxHeartbeats 1000000 in
theorem decode_no (s : ByteArray) (hs : s.size ≤ 1000000) (hd : (decL 0 (nats s)).2 = false) (w : World) :
    Calls Try.prog 48 #[.string s] w fun e w' => e = .returned (.tuple #[.string ⟨#[]⟩, .bool false]) ∧ Below w.heap.size w w' := by
  have hmf : ∀ (fn : Fn) (first cap : Array Value) (w : World), (Instr.makeFunc fn first cap).run Try.prog w = .ok (.func fn first cap) w := fun _ _ _ _ => rfl
  go_enter Try.func48, Try.ntmps48
  go_wp2_with fail
  refine (each_dec s hs _ w.heap.size ((Below.heap_alloc _ _ _ (by simp)).trans (heap_alloc_new _ _)) (heap_alloc_last _ _ _ (by simp)) (by simp)).mono ?_
  rintro e w1 ⟨rfl, ⟨u, hB, hown⟩, hG, hb1⟩
  have hcv : (convert 53 9 u).run Try.prog w1 = .ok (.string (bytesN (decL 0 (nats s)).1)) w1 := own_text Try.underlying53 Try.underlying5 Try.underlying9 hown
  have hc : w1.cell? ⟨w.heap.size, 0, none⟩ = some u := cell_of hB 0
  have hg : w1.cell? ⟨w.heap.size + 1, 0, none⟩ = some (.bool (decL 0 (nats s)).2) := cell_of hG 0
  have hbel : Below w.heap.size w w1 := (((Below.refl _ _).alloc (Nat.le_refl _) _).alloc (by simp) _).trans hb1
  rw [hd] at hg
  clear hown hB hG hb1 hd
  go_wp2
  go_ret2
  exact ⟨rfl, hbel⟩
end Go.Proofs.Ytmondgamackcgaa
