/-
  NARROWER THAN 'FOR EVERY INPUT', by the rows' own cells (each row's printed sentence says how): VnameFew: laid · VnameLetters: laid · VnameTells: laid · VnameJoins: laid · VnameParts: laid · VnameBegins: laid.
  DERIVED. THE GIVEN ROWS OF THIS SEAT. 6 by the template 'for every input the law returns true; each argument reads behind the call as it read before'; 0 by the template 'total and deterministic' (their statements: YtmondgamackcgaaDoorTotals.lean).
  GIVEN WITH THE SEED: the statements are not yours to turn. If you find one false, say at which input.
  Laid BY PROGRAM, IN A SANDBOX (cutbox-rows.mjs): the forced cells as the released guide's own fill.sh prints them over the translation 2ca0b3f176f41f87… (all of the seat's roots in one cut). By AI agents, Wed Nov 11 2026. No macro, syntax, notation, axiom, sorry.
-/
import Derived.Test.YtmondgamackcgaaDoorChecked
import GoSem.PinnedTables
import GoSem.Claim
import GoSem.ClaimJoined
import GoSem.ClaimMapViews
import Derived.JoinedTies
import Derived.KernelRfl
namespace Go.Proofs.YtmondgamackcgaaDoor
/- THE CELL 'sum', in the pinned program and in every row, IS THE sha256 OF THE DUMP (.gsa) THAT YtmondgamackcgaaDoorProg.lean LOADS. Nothing in Lean hashes anything: it is a label: what it is worth is what the hold of that sum in a sandbox is worth. -/
noncomputable def Tryd.pinned : Pinned := { name := "ytmondgamackcgaadoor", sum := "2ca0b3f176f41f8795e2e609b868b4f3b174cfdb5480e008c8bc27e7de9f6810", checked := Tryd.checked }
namespace Rows
def none {H : Type} : Left H := { results := [], args := [] }

/- WHAT THE LISTED PACKAGE-LEVEL VARIABLES READ AS WHEN THE CALL BEGINS. Each datum BY PROGRAM (the guide's laid-datum.mjs) off the statement by which the dump's own 'gosem.cut.vars' lays the variable. In a bare row this is a premise. The card (YtmondgamackcgaaDoorCards.lean) ties it to the program's text. -/
def laid_unicode_utf8_acceptRanges {H : Type} : DataW H := .agg [.agg [.lit (.int .u8 128), .lit (.int .u8 191)], .agg [.lit (.int .u8 160), .lit (.int .u8 191)], .agg [.lit (.int .u8 128), .lit (.int .u8 159)], .agg [.lit (.int .u8 144), .lit (.int .u8 191)], .agg [.lit (.int .u8 128), .lit (.int .u8 143)], .agg [.lit (.int .u8 0), .lit (.int .u8 0)], .agg [.lit (.int .u8 0), .lit (.int .u8 0)], .agg [.lit (.int .u8 0), .lit (.int .u8 0)], .agg [.lit (.int .u8 0), .lit (.int .u8 0)], .agg [.lit (.int .u8 0), .lit (.int .u8 0)], .agg [.lit (.int .u8 0), .lit (.int .u8 0)], .agg [.lit (.int .u8 0), .lit (.int .u8 0)], .agg [.lit (.int .u8 0), .lit (.int .u8 0)], .agg [.lit (.int .u8 0), .lit (.int .u8 0)], .agg [.lit (.int .u8 0), .lit (.int .u8 0)], .agg [.lit (.int .u8 0), .lit (.int .u8 0)]]
/-- One of Go's own tables, pinned by name: the form's constant. -/
def laid_unicode_utf8_first : DataW Unit := Go.Pinned.utf8First

/-- 'phalaropelaw05.VnameFew': WHATEVER THE INPUT: true; the input reads as it did. -/
def vnameFewSpec : ChangeSpec := { name := "vnameFew", fn := fun _ => fun
  | [d1, d2, d3] => { results := [.lit (.bool true)], args := [d1, d2, d3] }
  | _ => none }
def vnameFewRow : OpenClaim := { program := "ytmondgamackcgaadoor", sum := "2ca0b3f176f41f8795e2e609b868b4f3b174cfdb5480e008c8bc27e7de9f6810", func := "phalarope/phalaropelaw05.VnameFew", spec := "vnameFew", inPlace := ["internal/bytealg.CountString", "internal/bytealg.IndexByteString", "internal/bytealg.IndexString"], named := ["unicode/utf8.first", "unicode/utf8.acceptRanges", "internal/bytealg.MaxLen"], apart := false, laid := [("unicode/utf8.acceptRanges", laid_unicode_utf8_acceptRanges), ("unicode/utf8.first", laid_unicode_utf8_first)] }
def VnameFewSaid : Prop := vnameFewRow.holds Tryd.pinned (OpenSpec.ofChange vnameFewSpec)

/-- ITS FALSE NEIGHBOUR: 'it returns false'. Refute it at one input. -/
def vnameFewWrong : ChangeSpec := { name := "vnameFew", fn := fun _ => fun
  | [d1, d2, d3] => { results := [.lit (.bool false)], args := [d1, d2, d3] }
  | _ => none }
def VnameFewWrongFalsely : Prop := vnameFewRow.holds Tryd.pinned (OpenSpec.ofChange vnameFewWrong)

/-- 'phalaropelaw05.VnameLetters': WHATEVER THE INPUT: true; the input reads as it did. -/
def vnameLettersSpec : ChangeSpec := { name := "vnameLetters", fn := fun _ => fun
  | [d] => { results := [.lit (.bool true)], args := [d] }
  | _ => none }
def vnameLettersRow : OpenClaim := { program := "ytmondgamackcgaadoor", sum := "2ca0b3f176f41f8795e2e609b868b4f3b174cfdb5480e008c8bc27e7de9f6810", func := "phalarope/phalaropelaw05.VnameLetters", spec := "vnameLetters", inPlace := ["internal/bytealg.CountString", "internal/bytealg.IndexByteString", "internal/bytealg.IndexString"], named := ["unicode/utf8.first", "unicode/utf8.acceptRanges", "internal/bytealg.MaxLen"], apart := false, laid := [("unicode/utf8.acceptRanges", laid_unicode_utf8_acceptRanges), ("unicode/utf8.first", laid_unicode_utf8_first)] }
def VnameLettersSaid : Prop := vnameLettersRow.holds Tryd.pinned (OpenSpec.ofChange vnameLettersSpec)

/-- ITS FALSE NEIGHBOUR: 'it returns false'. Refute it at one input. -/
def vnameLettersWrong : ChangeSpec := { name := "vnameLetters", fn := fun _ => fun
  | [d] => { results := [.lit (.bool false)], args := [d] }
  | _ => none }
def VnameLettersWrongFalsely : Prop := vnameLettersRow.holds Tryd.pinned (OpenSpec.ofChange vnameLettersWrong)

/-- 'phalaropelaw05.VnameTells': WHATEVER THE INPUT: true; the input reads as it did. -/
def vnameTellsSpec : ChangeSpec := { name := "vnameTells", fn := fun _ => fun
  | [d] => { results := [.lit (.bool true)], args := [d] }
  | _ => none }
def vnameTellsRow : OpenClaim := { program := "ytmondgamackcgaadoor", sum := "2ca0b3f176f41f8795e2e609b868b4f3b174cfdb5480e008c8bc27e7de9f6810", func := "phalarope/phalaropelaw05.VnameTells", spec := "vnameTells", inPlace := ["internal/bytealg.CountString", "internal/bytealg.IndexByteString", "internal/bytealg.IndexString"], recurses := true, named := ["unicode/utf8.first", "unicode/utf8.acceptRanges", "internal/bytealg.MaxLen"], apart := false, laid := [("unicode/utf8.acceptRanges", laid_unicode_utf8_acceptRanges), ("unicode/utf8.first", laid_unicode_utf8_first)] }
def VnameTellsSaid : Prop := vnameTellsRow.holds Tryd.pinned (OpenSpec.ofChange vnameTellsSpec)

/-- ITS FALSE NEIGHBOUR: 'it returns false'. Refute it at one input. -/
def vnameTellsWrong : ChangeSpec := { name := "vnameTells", fn := fun _ => fun
  | [d] => { results := [.lit (.bool false)], args := [d] }
  | _ => none }
def VnameTellsWrongFalsely : Prop := vnameTellsRow.holds Tryd.pinned (OpenSpec.ofChange vnameTellsWrong)

/-- 'phalaropelaw05.VnameJoins': WHATEVER THE INPUT: true; the input reads as it did. -/
def vnameJoinsSpec : ChangeSpec := { name := "vnameJoins", fn := fun _ => fun
  | [d1, d2] => { results := [.lit (.bool true)], args := [d1, d2] }
  | _ => none }
def vnameJoinsRow : OpenClaim := { program := "ytmondgamackcgaadoor", sum := "2ca0b3f176f41f8795e2e609b868b4f3b174cfdb5480e008c8bc27e7de9f6810", func := "phalarope/phalaropelaw05.VnameJoins", spec := "vnameJoins", inPlace := ["internal/bytealg.CountString", "internal/bytealg.IndexByteString", "internal/bytealg.IndexString"], named := ["unicode/utf8.first", "unicode/utf8.acceptRanges", "internal/bytealg.MaxLen"], apart := false, laid := [("unicode/utf8.acceptRanges", laid_unicode_utf8_acceptRanges), ("unicode/utf8.first", laid_unicode_utf8_first)] }
def VnameJoinsSaid : Prop := vnameJoinsRow.holds Tryd.pinned (OpenSpec.ofChange vnameJoinsSpec)

/-- ITS FALSE NEIGHBOUR: 'it returns false'. Refute it at one input. -/
def vnameJoinsWrong : ChangeSpec := { name := "vnameJoins", fn := fun _ => fun
  | [d1, d2] => { results := [.lit (.bool false)], args := [d1, d2] }
  | _ => none }
def VnameJoinsWrongFalsely : Prop := vnameJoinsRow.holds Tryd.pinned (OpenSpec.ofChange vnameJoinsWrong)

/-- 'phalaropelaw05.VnameParts': WHATEVER THE INPUT: true; the input reads as it did. -/
def vnamePartsSpec : ChangeSpec := { name := "vnameParts", fn := fun _ => fun
  | [d] => { results := [.lit (.bool true)], args := [d] }
  | _ => none }
def vnamePartsRow : OpenClaim := { program := "ytmondgamackcgaadoor", sum := "2ca0b3f176f41f8795e2e609b868b4f3b174cfdb5480e008c8bc27e7de9f6810", func := "phalarope/phalaropelaw05.VnameParts", spec := "vnameParts", inPlace := ["internal/bytealg.CountString", "internal/bytealg.IndexByteString", "internal/bytealg.IndexString"], named := ["unicode/utf8.first", "unicode/utf8.acceptRanges", "internal/bytealg.MaxLen"], apart := false, laid := [("unicode/utf8.acceptRanges", laid_unicode_utf8_acceptRanges), ("unicode/utf8.first", laid_unicode_utf8_first)] }
def VnamePartsSaid : Prop := vnamePartsRow.holds Tryd.pinned (OpenSpec.ofChange vnamePartsSpec)

/-- ITS FALSE NEIGHBOUR: 'it returns false'. Refute it at one input. -/
def vnamePartsWrong : ChangeSpec := { name := "vnameParts", fn := fun _ => fun
  | [d] => { results := [.lit (.bool false)], args := [d] }
  | _ => none }
def VnamePartsWrongFalsely : Prop := vnamePartsRow.holds Tryd.pinned (OpenSpec.ofChange vnamePartsWrong)

/-- 'phalaropelaw05.VnameBegins': WHATEVER THE INPUT: true; the input reads as it did. -/
def vnameBeginsSpec : ChangeSpec := { name := "vnameBegins", fn := fun _ => fun
  | [d1, d2] => { results := [.lit (.bool true)], args := [d1, d2] }
  | _ => none }
def vnameBeginsRow : OpenClaim := { program := "ytmondgamackcgaadoor", sum := "2ca0b3f176f41f8795e2e609b868b4f3b174cfdb5480e008c8bc27e7de9f6810", func := "phalarope/phalaropelaw05.VnameBegins", spec := "vnameBegins", inPlace := ["internal/bytealg.CountString", "internal/bytealg.IndexByteString", "internal/bytealg.IndexString"], named := ["unicode/utf8.first", "unicode/utf8.acceptRanges", "internal/bytealg.MaxLen"], apart := false, laid := [("unicode/utf8.acceptRanges", laid_unicode_utf8_acceptRanges), ("unicode/utf8.first", laid_unicode_utf8_first)] }
def VnameBeginsSaid : Prop := vnameBeginsRow.holds Tryd.pinned (OpenSpec.ofChange vnameBeginsSpec)

/-- ITS FALSE NEIGHBOUR: 'it returns false'. Refute it at one input. -/
def vnameBeginsWrong : ChangeSpec := { name := "vnameBegins", fn := fun _ => fun
  | [d1, d2] => { results := [.lit (.bool false)], args := [d1, d2] }
  | _ => none }
def VnameBeginsWrongFalsely : Prop := vnameBeginsRow.holds Tryd.pinned (OpenSpec.ofChange vnameBeginsWrong)

/- THE SECOND FORM. 'bulk': how many values and letters a reading holds, each counted each time it is reached (what is shared counts as often as it is met; a slice's spare places count too). A statement '..UptoSaid' is the law's where the arguments, and the package variables that the reading takes, are together of bulk at most 1048576: NARROWER than '..Said'. Prove '..Said' where nothing that the law and all that it calls make is longer than what came in: it says more and counts as full. Else prove '..UptoSaid'. A law counts once. -/
mutual
def uptoBulk {H : Type} : DataW H → Nat
  | .lit (.string bytes) => bytes.length + 1
  | .lit _ => 1
  | .nil => 1
  | .ptr d => uptoBulk d + 1
  | .slice elems spare => uptoBulkAll elems + uptoBulkAll spare + 1
  | .agg parts => uptoBulkAll parts + 1
  | .iface _ d => uptoBulk d + 1
  | .map entries => uptoBulkEntries entries + 1
  | .held _ => 1
def uptoBulkAll {H : Type} : List (DataW H) → Nat
  | [] => 0
  | d :: r => uptoBulk d + uptoBulkAll r
def uptoBulkEntries {H : Type} : List (Lit × DataW H) → Nat
  | [] => 0
  | x :: r => uptoBulkEntry x + uptoBulkEntries r
def uptoBulkEntry {H : Type} : Lit × DataW H → Nat
  | (.string bytes, d) => bytes.length + uptoBulk d + 1
  | (_, d) => uptoBulk d + 1
 end
def uptoSmall : (H : Type) → List (DataW H) → Bool := fun _ ds => decide (uptoBulkAll ds ≤ 1048576)
def OpenSpec.upto (s : _root_.Go.ChangeSpec) : _root_.Go.OpenSpec := { _root_.Go.OpenSpec.ofChange s with cond := some uptoSmall }

/-- 'phalaropelaw05.VnameFew', WHERE WHAT IT READS IS OF BULK AT MOST 1048576: true; the input reads as it did. -/
def vnameFewUptoRow : OpenClaim := { program := "ytmondgamackcgaadoor", sum := "2ca0b3f176f41f8795e2e609b868b4f3b174cfdb5480e008c8bc27e7de9f6810", func := "phalarope/phalaropelaw05.VnameFew", spec := "vnameFew", inPlace := ["internal/bytealg.CountString", "internal/bytealg.IndexByteString", "internal/bytealg.IndexString"], named := ["unicode/utf8.first", "unicode/utf8.acceptRanges", "internal/bytealg.MaxLen"], apart := false, laid := [("unicode/utf8.acceptRanges", laid_unicode_utf8_acceptRanges), ("unicode/utf8.first", laid_unicode_utf8_first)], narrowed := true }
def VnameFewUptoSaid : Prop := vnameFewUptoRow.holds Tryd.pinned (OpenSpec.upto vnameFewSpec)

/-- 'phalaropelaw05.VnameLetters', WHERE WHAT IT READS IS OF BULK AT MOST 1048576: true; the input reads as it did. -/
def vnameLettersUptoRow : OpenClaim := { program := "ytmondgamackcgaadoor", sum := "2ca0b3f176f41f8795e2e609b868b4f3b174cfdb5480e008c8bc27e7de9f6810", func := "phalarope/phalaropelaw05.VnameLetters", spec := "vnameLetters", inPlace := ["internal/bytealg.CountString", "internal/bytealg.IndexByteString", "internal/bytealg.IndexString"], named := ["unicode/utf8.first", "unicode/utf8.acceptRanges", "internal/bytealg.MaxLen"], apart := false, laid := [("unicode/utf8.acceptRanges", laid_unicode_utf8_acceptRanges), ("unicode/utf8.first", laid_unicode_utf8_first)], narrowed := true }
def VnameLettersUptoSaid : Prop := vnameLettersUptoRow.holds Tryd.pinned (OpenSpec.upto vnameLettersSpec)

/-- 'phalaropelaw05.VnameTells', WHERE WHAT IT READS IS OF BULK AT MOST 1048576: true; the input reads as it did. -/
def vnameTellsUptoRow : OpenClaim := { program := "ytmondgamackcgaadoor", sum := "2ca0b3f176f41f8795e2e609b868b4f3b174cfdb5480e008c8bc27e7de9f6810", func := "phalarope/phalaropelaw05.VnameTells", spec := "vnameTells", inPlace := ["internal/bytealg.CountString", "internal/bytealg.IndexByteString", "internal/bytealg.IndexString"], recurses := true, named := ["unicode/utf8.first", "unicode/utf8.acceptRanges", "internal/bytealg.MaxLen"], apart := false, laid := [("unicode/utf8.acceptRanges", laid_unicode_utf8_acceptRanges), ("unicode/utf8.first", laid_unicode_utf8_first)], narrowed := true }
def VnameTellsUptoSaid : Prop := vnameTellsUptoRow.holds Tryd.pinned (OpenSpec.upto vnameTellsSpec)

/-- 'phalaropelaw05.VnameJoins', WHERE WHAT IT READS IS OF BULK AT MOST 1048576: true; the input reads as it did. -/
def vnameJoinsUptoRow : OpenClaim := { program := "ytmondgamackcgaadoor", sum := "2ca0b3f176f41f8795e2e609b868b4f3b174cfdb5480e008c8bc27e7de9f6810", func := "phalarope/phalaropelaw05.VnameJoins", spec := "vnameJoins", inPlace := ["internal/bytealg.CountString", "internal/bytealg.IndexByteString", "internal/bytealg.IndexString"], named := ["unicode/utf8.first", "unicode/utf8.acceptRanges", "internal/bytealg.MaxLen"], apart := false, laid := [("unicode/utf8.acceptRanges", laid_unicode_utf8_acceptRanges), ("unicode/utf8.first", laid_unicode_utf8_first)], narrowed := true }
def VnameJoinsUptoSaid : Prop := vnameJoinsUptoRow.holds Tryd.pinned (OpenSpec.upto vnameJoinsSpec)

/-- 'phalaropelaw05.VnameParts', WHERE WHAT IT READS IS OF BULK AT MOST 1048576: true; the input reads as it did. -/
def vnamePartsUptoRow : OpenClaim := { program := "ytmondgamackcgaadoor", sum := "2ca0b3f176f41f8795e2e609b868b4f3b174cfdb5480e008c8bc27e7de9f6810", func := "phalarope/phalaropelaw05.VnameParts", spec := "vnameParts", inPlace := ["internal/bytealg.CountString", "internal/bytealg.IndexByteString", "internal/bytealg.IndexString"], named := ["unicode/utf8.first", "unicode/utf8.acceptRanges", "internal/bytealg.MaxLen"], apart := false, laid := [("unicode/utf8.acceptRanges", laid_unicode_utf8_acceptRanges), ("unicode/utf8.first", laid_unicode_utf8_first)], narrowed := true }
def VnamePartsUptoSaid : Prop := vnamePartsUptoRow.holds Tryd.pinned (OpenSpec.upto vnamePartsSpec)

/-- 'phalaropelaw05.VnameBegins', WHERE WHAT IT READS IS OF BULK AT MOST 1048576: true; the input reads as it did. -/
def vnameBeginsUptoRow : OpenClaim := { program := "ytmondgamackcgaadoor", sum := "2ca0b3f176f41f8795e2e609b868b4f3b174cfdb5480e008c8bc27e7de9f6810", func := "phalarope/phalaropelaw05.VnameBegins", spec := "vnameBegins", inPlace := ["internal/bytealg.CountString", "internal/bytealg.IndexByteString", "internal/bytealg.IndexString"], named := ["unicode/utf8.first", "unicode/utf8.acceptRanges", "internal/bytealg.MaxLen"], apart := false, laid := [("unicode/utf8.acceptRanges", laid_unicode_utf8_acceptRanges), ("unicode/utf8.first", laid_unicode_utf8_first)], narrowed := true }
def VnameBeginsUptoSaid : Prop := vnameBeginsUptoRow.holds Tryd.pinned (OpenSpec.upto vnameBeginsSpec)

end Rows
end Go.Proofs.YtmondgamackcgaaDoor
