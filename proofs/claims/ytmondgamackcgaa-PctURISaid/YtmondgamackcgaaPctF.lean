/- What the contracts of pct.Encode lean on. -/
import Derived.Test.YtmondgamackcgaaPctA
import Derived.Test.YtmondgamackcgaaPctB
import Derived.Test.YtmondgamackcgaaClassB
import Derived.Test.YtmondgamackcgaaShelf
import Derived.BigQuiet
namespace Go.Proofs.Ytmondgamackcgaa
open Go.RowKit

theorem bld_below {B b : Nat} {bs : List Value} {w w' : World} (h : Bld B b bs w) (hb : Below w.heap.size w w') : Bld B b bs w' := by
  rcases h with ⟨hB, v, hbk, hown, hne⟩ | ⟨hB, v, hbk, hown, hne⟩
  · exact .inl ⟨hB, v, block_below hbk hb, own_below hown hb, hne⟩
  · exact .inr ⟨hB, v, block_below hbk hb, own_below hown hb, hne⟩
theorem cut_from (s : ByteArray) (p : Nat) (h : p ≤ s.size) (w : World) : (Instr.slice 9 (.string s) (some (.int .i64 p)) none none).run Try.prog w = .ok (.string (s.extract p s.size)) w := by
  rw [run_slice_string_l (P := Try.prog) w 9 s Try.underlying9 .i64 (p : Int) (by omega) (by omega)]
  rfl
theorem trip_from (s : ByteArray) (p : Nat) : tripU (s.extract p s.size) = trip ((nats s).drop p) := by
  unfold tripU
  rw [nats_extract, List.take_of_length_le (by rw [List.length_drop, nats_len]; exact Nat.le_refl _)]
theorem drop_cons (s : ByteArray) (i : Nat) (h : i < s.size) : (nats s).drop i = (nats s).getD i 0 :: (nats s).drop (i + 1) := by
  have hl : i < (nats s).length := by rw [nats_len]; exact h
  rw [List.drop_eq_getElem_cons hl, List.getD_eq_getElem?_getD, List.getElem?_eq_getElem hl]
  rfl
theorem unres_set (c : Nat) (h : c < 256) : unreservedS c = unresN c := by
  have : ∀ c : Fin 256, unreservedS c.val = unresN c.val := by decide +kernel
  exact this ⟨c, h⟩
theorem resv_set (c : Nat) (h : c < 256) : reservedS c = resvN c := by
  have : ∀ c : Fin 256, reservedS c.val = resvN c.val := by decide +kernel
  exact this ⟨c, h⟩
theorem both_set (c : Nat) (h : c < 256) : anyOf [unreservedS, reservedS] c = (unresN c || resvN c) := by
  rw [← unres_set c h, ← resv_set c h]
  simp [anyOf]
theorem enc_stay {keep : Bool} {s : ByteArray} {i : Nat} (h : i < s.size) {acc T : List UInt8} (hs : stayN keep ((nats s).drop i) ((nats s).getD i 0) = true) (hT : acc ++ bytesU (encL keep ((nats s).drop i)) = T) :
    (acc ++ [UInt8.ofNat ((nats s).getD i 0)]) ++ bytesU (encL keep ((nats s).drop (i + 1))) = T := by
  rw [drop_cons s i h] at hs hT
  rw [encL, if_pos hs] at hT
  rw [← hT]
  simp [bytesU]
theorem enc_goes {keep : Bool} {s : ByteArray} {i : Nat} (h : i < s.size) {acc T : List UInt8} (hs : stayN keep ((nats s).drop i) ((nats s).getD i 0) = false) (hT : acc ++ bytesU (encL keep ((nats s).drop i)) = T) :
    (acc ++ bytesU (oneN ((nats s).getD i 0))) ++ bytesU (encL keep ((nats s).drop (i + 1))) = T := by
  rw [drop_cons s i h] at hs hT
  rw [encL, if_neg (by rw [hs]; decide)] at hT
  rw [← hT]
  simp [bytesU]
theorem enc_done {keep : Bool} {s : ByteArray} {acc T : List UInt8} (hT : acc ++ bytesU (encL keep ((nats s).drop s.size)) = T) : acc = T := by
  rw [List.drop_eq_nil_of_le (by rw [nats_len]; exact Nat.le_refl _)] at hT
  simpa [encL, bytesU] using hT
theorem cells_byte (acc : List UInt8) (c : Nat) (h : c < 256) : Lib.byteCells acc ++ [.int .u8 (c : Int)] = Lib.byteCells (acc ++ [UInt8.ofNat c]) := by
  rw [Lib.byteCells_append]
  exact congrArg (fun z => Lib.byteCells acc ++ [Value.int .u8 z]) (nat8 c h).symm
theorem cells_text (acc : List UInt8) (l : List Nat) : Lib.byteCells acc ++ Lib.strCells (bytesN l) = Lib.byteCells (acc ++ bytesU l) := by
  rw [Lib.byteCells_append, Lib.strCells_eq]
  rfl

end Go.Proofs.Ytmondgamackcgaa
