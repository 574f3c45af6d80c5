/-
  No cell of these rows narrows 'for every input' (looked for: loops, veiled, ifaces, maps, wideKeys, modest, calm, conditions, laid).
  DERIVED. THE GIVEN ROWS OF THIS SEAT. 18 by the template 'for every input the law returns true; each argument reads behind the call as it read before'; 0 by the template 'total and deterministic' (their statements: YtjjmfmlgemdjkaaTotals.lean).
  GIVEN WITH THE SEED: the statements are not yours to turn. If you find one false, say at which input.
  Laid BY PROGRAM, IN A SANDBOX (cutbox-rows.mjs): the forced cells as the released guide's own fill.sh prints them over the translation a7aeb595aa41f2f9… (all of the seat's roots in one cut). By AI agents, Wed Nov 11 2026. No macro, syntax, notation, axiom, sorry.
-/
import Derived.Test.YtjjmfmlgemdjkaaChecked
import GoSem.Claim
import GoSem.ClaimJoined
import GoSem.ClaimMapViews
import Derived.JoinedTies
import Derived.KernelRfl
namespace Go.Proofs.Ytjjmfmlgemdjkaa
/- THE CELL 'sum', in the pinned program and in every row, IS THE sha256 OF THE DUMP (.gsa) THAT YtjjmfmlgemdjkaaProg.lean LOADS. Nothing in Lean hashes anything: it is a label: what it is worth is what the hold of that sum in a sandbox is worth. -/
noncomputable def Try.pinned : Pinned := { name := "ytjjmfmlgemdjkaa", sum := "a7aeb595aa41f2f9c32941c450686c7cc929795a73248cabbe27cf2eac205ac8", checked := Try.checked }
namespace Rows
def none {H : Type} : Left H := { results := [], args := [] }

/-- 'phalaropelaw01.UtfText': WHATEVER THE INPUT: true; the input reads as it did. -/
def utfTextSpec : ChangeSpec := { name := "utfText", fn := fun _ => fun
  | [d1, d2] => { results := [.lit (.bool true)], args := [d1, d2] }
  | _ => none }
def utfTextRow : OpenClaim := { program := "ytjjmfmlgemdjkaa", sum := "a7aeb595aa41f2f9c32941c450686c7cc929795a73248cabbe27cf2eac205ac8", func := "phalarope/phalaropelaw01.UtfText", spec := "utfText", unfollowed := true, recurses := true, apart := false }
def UtfTextSaid : Prop := utfTextRow.holds Try.pinned (OpenSpec.ofChange utfTextSpec)

/-- ITS FALSE NEIGHBOUR: 'it returns false'. Refute it at one input. -/
def utfTextWrong : ChangeSpec := { name := "utfText", fn := fun _ => fun
  | [d1, d2] => { results := [.lit (.bool false)], args := [d1, d2] }
  | _ => none }
def UtfTextWrongFalsely : Prop := utfTextRow.holds Try.pinned (OpenSpec.ofChange utfTextWrong)

/-- 'phalaropelaw01.UtfBack': WHATEVER THE INPUT: true; the input reads as it did. -/
def utfBackSpec : ChangeSpec := { name := "utfBack", fn := fun _ => fun
  | [d1, d2] => { results := [.lit (.bool true)], args := [d1, d2] }
  | _ => none }
def utfBackRow : OpenClaim := { program := "ytjjmfmlgemdjkaa", sum := "a7aeb595aa41f2f9c32941c450686c7cc929795a73248cabbe27cf2eac205ac8", func := "phalarope/phalaropelaw01.UtfBack", spec := "utfBack", unfollowed := true, recurses := true, apart := false }
def UtfBackSaid : Prop := utfBackRow.holds Try.pinned (OpenSpec.ofChange utfBackSpec)

/-- ITS FALSE NEIGHBOUR: 'it returns false'. Refute it at one input. -/
def utfBackWrong : ChangeSpec := { name := "utfBack", fn := fun _ => fun
  | [d1, d2] => { results := [.lit (.bool false)], args := [d1, d2] }
  | _ => none }
def UtfBackWrongFalsely : Prop := utfBackRow.holds Try.pinned (OpenSpec.ofChange utfBackWrong)

/-- 'phalaropelaw01.UtfJoins': WHATEVER THE INPUT: true; the input reads as it did. -/
def utfJoinsSpec : ChangeSpec := { name := "utfJoins", fn := fun _ => fun
  | [d1, d2] => { results := [.lit (.bool true)], args := [d1, d2] }
  | _ => none }
def utfJoinsRow : OpenClaim := { program := "ytjjmfmlgemdjkaa", sum := "a7aeb595aa41f2f9c32941c450686c7cc929795a73248cabbe27cf2eac205ac8", func := "phalarope/phalaropelaw01.UtfJoins", spec := "utfJoins", unfollowed := true, recurses := true, apart := false }
def UtfJoinsSaid : Prop := utfJoinsRow.holds Try.pinned (OpenSpec.ofChange utfJoinsSpec)

/-- ITS FALSE NEIGHBOUR: 'it returns false'. Refute it at one input. -/
def utfJoinsWrong : ChangeSpec := { name := "utfJoins", fn := fun _ => fun
  | [d1, d2] => { results := [.lit (.bool false)], args := [d1, d2] }
  | _ => none }
def UtfJoinsWrongFalsely : Prop := utfJoinsRow.holds Try.pinned (OpenSpec.ofChange utfJoinsWrong)

/-- 'phalaropelaw01.UtfOne': WHATEVER THE INPUT: true; the input reads as it did. -/
def utfOneSpec : ChangeSpec := { name := "utfOne", fn := fun _ => fun
  | [d1, d2] => { results := [.lit (.bool true)], args := [d1, d2] }
  | _ => none }
def utfOneRow : OpenClaim := { program := "ytjjmfmlgemdjkaa", sum := "a7aeb595aa41f2f9c32941c450686c7cc929795a73248cabbe27cf2eac205ac8", func := "phalarope/phalaropelaw01.UtfOne", spec := "utfOne", unfollowed := true, recurses := true, apart := false }
def UtfOneSaid : Prop := utfOneRow.holds Try.pinned (OpenSpec.ofChange utfOneSpec)

/-- ITS FALSE NEIGHBOUR: 'it returns false'. Refute it at one input. -/
def utfOneWrong : ChangeSpec := { name := "utfOne", fn := fun _ => fun
  | [d1, d2] => { results := [.lit (.bool false)], args := [d1, d2] }
  | _ => none }
def UtfOneWrongFalsely : Prop := utfOneRow.holds Try.pinned (OpenSpec.ofChange utfOneWrong)

/-- 'phalaropelaw01.UtfChars': WHATEVER THE INPUT: true; the input reads as it did. -/
def utfCharsSpec : ChangeSpec := { name := "utfChars", fn := fun _ => fun
  | [d1, d2] => { results := [.lit (.bool true)], args := [d1, d2] }
  | _ => none }
def utfCharsRow : OpenClaim := { program := "ytjjmfmlgemdjkaa", sum := "a7aeb595aa41f2f9c32941c450686c7cc929795a73248cabbe27cf2eac205ac8", func := "phalarope/phalaropelaw01.UtfChars", spec := "utfChars", unfollowed := true, recurses := true, apart := false }
def UtfCharsSaid : Prop := utfCharsRow.holds Try.pinned (OpenSpec.ofChange utfCharsSpec)

/-- ITS FALSE NEIGHBOUR: 'it returns false'. Refute it at one input. -/
def utfCharsWrong : ChangeSpec := { name := "utfChars", fn := fun _ => fun
  | [d1, d2] => { results := [.lit (.bool false)], args := [d1, d2] }
  | _ => none }
def UtfCharsWrongFalsely : Prop := utfCharsRow.holds Try.pinned (OpenSpec.ofChange utfCharsWrong)

/-- 'phalaropelaw01.UtfPrefix': WHATEVER THE INPUT: true; the input reads as it did. -/
def utfPrefixSpec : ChangeSpec := { name := "utfPrefix", fn := fun _ => fun
  | [d1, d2, d3] => { results := [.lit (.bool true)], args := [d1, d2, d3] }
  | _ => none }
def utfPrefixRow : OpenClaim := { program := "ytjjmfmlgemdjkaa", sum := "a7aeb595aa41f2f9c32941c450686c7cc929795a73248cabbe27cf2eac205ac8", func := "phalarope/phalaropelaw01.UtfPrefix", spec := "utfPrefix", unfollowed := true, recurses := true, apart := false }
def UtfPrefixSaid : Prop := utfPrefixRow.holds Try.pinned (OpenSpec.ofChange utfPrefixSpec)

/-- ITS FALSE NEIGHBOUR: 'it returns false'. Refute it at one input. -/
def utfPrefixWrong : ChangeSpec := { name := "utfPrefix", fn := fun _ => fun
  | [d1, d2, d3] => { results := [.lit (.bool false)], args := [d1, d2, d3] }
  | _ => none }
def UtfPrefixWrongFalsely : Prop := utfPrefixRow.holds Try.pinned (OpenSpec.ofChange utfPrefixWrong)

/-- 'phalaropelaw04.UcsTells': WHATEVER THE INPUT: true; the input reads as it did. -/
def ucsTellsSpec : ChangeSpec := { name := "ucsTells", fn := fun _ => fun
  | [d1, d2] => { results := [.lit (.bool true)], args := [d1, d2] }
  | _ => none }
def ucsTellsRow : OpenClaim := { program := "ytjjmfmlgemdjkaa", sum := "a7aeb595aa41f2f9c32941c450686c7cc929795a73248cabbe27cf2eac205ac8", func := "phalarope/phalaropelaw04.UcsTells", spec := "ucsTells", unfollowed := true, recurses := true, apart := false }
def UcsTellsSaid : Prop := ucsTellsRow.holds Try.pinned (OpenSpec.ofChange ucsTellsSpec)

/-- ITS FALSE NEIGHBOUR: 'it returns false'. Refute it at one input. -/
def ucsTellsWrong : ChangeSpec := { name := "ucsTells", fn := fun _ => fun
  | [d1, d2] => { results := [.lit (.bool false)], args := [d1, d2] }
  | _ => none }
def UcsTellsWrongFalsely : Prop := ucsTellsRow.holds Try.pinned (OpenSpec.ofChange ucsTellsWrong)

/-- 'phalaropelaw04.UcsBegins': WHATEVER THE INPUT: true; the input reads as it did. -/
def ucsBeginsSpec : ChangeSpec := { name := "ucsBegins", fn := fun _ => fun
  | [d1, d2] => { results := [.lit (.bool true)], args := [d1, d2] }
  | _ => none }
def ucsBeginsRow : OpenClaim := { program := "ytjjmfmlgemdjkaa", sum := "a7aeb595aa41f2f9c32941c450686c7cc929795a73248cabbe27cf2eac205ac8", func := "phalarope/phalaropelaw04.UcsBegins", spec := "ucsBegins", unfollowed := true, recurses := true, apart := false }
def UcsBeginsSaid : Prop := ucsBeginsRow.holds Try.pinned (OpenSpec.ofChange ucsBeginsSpec)

/-- ITS FALSE NEIGHBOUR: 'it returns false'. Refute it at one input. -/
def ucsBeginsWrong : ChangeSpec := { name := "ucsBegins", fn := fun _ => fun
  | [d1, d2] => { results := [.lit (.bool false)], args := [d1, d2] }
  | _ => none }
def UcsBeginsWrongFalsely : Prop := ucsBeginsRow.holds Try.pinned (OpenSpec.ofChange ucsBeginsWrong)

/-- 'phalaropelaw04.UcsCut': WHATEVER THE INPUT: true; the input reads as it did. -/
def ucsCutSpec : ChangeSpec := { name := "ucsCut", fn := fun _ => fun
  | [d1, d2, d3] => { results := [.lit (.bool true)], args := [d1, d2, d3] }
  | _ => none }
def ucsCutRow : OpenClaim := { program := "ytjjmfmlgemdjkaa", sum := "a7aeb595aa41f2f9c32941c450686c7cc929795a73248cabbe27cf2eac205ac8", func := "phalarope/phalaropelaw04.UcsCut", spec := "ucsCut", unfollowed := true, recurses := true, apart := false }
def UcsCutSaid : Prop := ucsCutRow.holds Try.pinned (OpenSpec.ofChange ucsCutSpec)

/-- ITS FALSE NEIGHBOUR: 'it returns false'. Refute it at one input. -/
def ucsCutWrong : ChangeSpec := { name := "ucsCut", fn := fun _ => fun
  | [d1, d2, d3] => { results := [.lit (.bool false)], args := [d1, d2, d3] }
  | _ => none }
def UcsCutWrongFalsely : Prop := ucsCutRow.holds Try.pinned (OpenSpec.ofChange ucsCutWrong)

/-- 'phalaropelaw04.UcsWhole': WHATEVER THE INPUT: true; the input reads as it did. -/
def ucsWholeSpec : ChangeSpec := { name := "ucsWhole", fn := fun _ => fun
  | [d] => { results := [.lit (.bool true)], args := [d] }
  | _ => none }
def ucsWholeRow : OpenClaim := { program := "ytjjmfmlgemdjkaa", sum := "a7aeb595aa41f2f9c32941c450686c7cc929795a73248cabbe27cf2eac205ac8", func := "phalarope/phalaropelaw04.UcsWhole", spec := "ucsWhole", unfollowed := true, recurses := true, apart := false }
def UcsWholeSaid : Prop := ucsWholeRow.holds Try.pinned (OpenSpec.ofChange ucsWholeSpec)

/-- ITS FALSE NEIGHBOUR: 'it returns false'. Refute it at one input. -/
def ucsWholeWrong : ChangeSpec := { name := "ucsWhole", fn := fun _ => fun
  | [d] => { results := [.lit (.bool false)], args := [d] }
  | _ => none }
def UcsWholeWrongFalsely : Prop := ucsWholeRow.holds Try.pinned (OpenSpec.ofChange ucsWholeWrong)

/-- 'phalaropelaw04.UcsPlanes': WHATEVER THE INPUT: true; the input reads as it did. -/
def ucsPlanesSpec : ChangeSpec := { name := "ucsPlanes", fn := fun _ => fun
  | [d1, d2] => { results := [.lit (.bool true)], args := [d1, d2] }
  | _ => none }
def ucsPlanesRow : OpenClaim := { program := "ytjjmfmlgemdjkaa", sum := "a7aeb595aa41f2f9c32941c450686c7cc929795a73248cabbe27cf2eac205ac8", func := "phalarope/phalaropelaw04.UcsPlanes", spec := "ucsPlanes", unfollowed := true, recurses := true, apart := false }
def UcsPlanesSaid : Prop := ucsPlanesRow.holds Try.pinned (OpenSpec.ofChange ucsPlanesSpec)

/-- ITS FALSE NEIGHBOUR: 'it returns false'. Refute it at one input. -/
def ucsPlanesWrong : ChangeSpec := { name := "ucsPlanes", fn := fun _ => fun
  | [d1, d2] => { results := [.lit (.bool false)], args := [d1, d2] }
  | _ => none }
def UcsPlanesWrongFalsely : Prop := ucsPlanesRow.holds Try.pinned (OpenSpec.ofChange ucsPlanesWrong)

/-- 'phalaropelaw04.UcsEnds': WHATEVER THE INPUT: true; the input reads as it did. -/
def ucsEndsSpec : ChangeSpec := { name := "ucsEnds", fn := fun _ => fun
  | [d] => { results := [.lit (.bool true)], args := [d] }
  | _ => none }
def ucsEndsRow : OpenClaim := { program := "ytjjmfmlgemdjkaa", sum := "a7aeb595aa41f2f9c32941c450686c7cc929795a73248cabbe27cf2eac205ac8", func := "phalarope/phalaropelaw04.UcsEnds", spec := "ucsEnds", unfollowed := true, recurses := true, apart := false }
def UcsEndsSaid : Prop := ucsEndsRow.holds Try.pinned (OpenSpec.ofChange ucsEndsSpec)

/-- ITS FALSE NEIGHBOUR: 'it returns false'. Refute it at one input. -/
def ucsEndsWrong : ChangeSpec := { name := "ucsEnds", fn := fun _ => fun
  | [d] => { results := [.lit (.bool false)], args := [d] }
  | _ => none }
def UcsEndsWrongFalsely : Prop := ucsEndsRow.holds Try.pinned (OpenSpec.ofChange ucsEndsWrong)

/-- 'phalaropelaw08.ValueOf': WHATEVER THE INPUT: true; the input reads as it did. -/
def valueOfSpec : ChangeSpec := { name := "valueOf", fn := fun _ => fun
  | [d1, d2] => { results := [.lit (.bool true)], args := [d1, d2] }
  | _ => none }
def valueOfRow : OpenClaim := { program := "ytjjmfmlgemdjkaa", sum := "a7aeb595aa41f2f9c32941c450686c7cc929795a73248cabbe27cf2eac205ac8", func := "phalarope/phalaropelaw08.ValueOf", spec := "valueOf", unfollowed := true, recurses := true, apart := false }
def ValueOfSaid : Prop := valueOfRow.holds Try.pinned (OpenSpec.ofChange valueOfSpec)

/-- ITS FALSE NEIGHBOUR: 'it returns false'. Refute it at one input. -/
def valueOfWrong : ChangeSpec := { name := "valueOf", fn := fun _ => fun
  | [d1, d2] => { results := [.lit (.bool false)], args := [d1, d2] }
  | _ => none }
def ValueOfWrongFalsely : Prop := valueOfRow.holds Try.pinned (OpenSpec.ofChange valueOfWrong)

/-- 'phalaropelaw08.ValueOrder': WHATEVER THE INPUT: true; the input reads as it did. -/
def valueOrderSpec : ChangeSpec := { name := "valueOrder", fn := fun _ => fun
  | [d1, d2, d3] => { results := [.lit (.bool true)], args := [d1, d2, d3] }
  | _ => none }
def valueOrderRow : OpenClaim := { program := "ytjjmfmlgemdjkaa", sum := "a7aeb595aa41f2f9c32941c450686c7cc929795a73248cabbe27cf2eac205ac8", func := "phalarope/phalaropelaw08.ValueOrder", spec := "valueOrder", unfollowed := true, recurses := true, apart := false }
def ValueOrderSaid : Prop := valueOrderRow.holds Try.pinned (OpenSpec.ofChange valueOrderSpec)

/-- ITS FALSE NEIGHBOUR: 'it returns false'. Refute it at one input. -/
def valueOrderWrong : ChangeSpec := { name := "valueOrder", fn := fun _ => fun
  | [d1, d2, d3] => { results := [.lit (.bool false)], args := [d1, d2, d3] }
  | _ => none }
def ValueOrderWrongFalsely : Prop := valueOrderRow.holds Try.pinned (OpenSpec.ofChange valueOrderWrong)

/-- 'phalaropelaw08.ValueMore': WHATEVER THE INPUT: true; the input reads as it did. -/
def valueMoreSpec : ChangeSpec := { name := "valueMore", fn := fun _ => fun
  | [d1, d2] => { results := [.lit (.bool true)], args := [d1, d2] }
  | _ => none }
def valueMoreRow : OpenClaim := { program := "ytjjmfmlgemdjkaa", sum := "a7aeb595aa41f2f9c32941c450686c7cc929795a73248cabbe27cf2eac205ac8", func := "phalarope/phalaropelaw08.ValueMore", spec := "valueMore", unfollowed := true, recurses := true, apart := false }
def ValueMoreSaid : Prop := valueMoreRow.holds Try.pinned (OpenSpec.ofChange valueMoreSpec)

/-- ITS FALSE NEIGHBOUR: 'it returns false'. Refute it at one input. -/
def valueMoreWrong : ChangeSpec := { name := "valueMore", fn := fun _ => fun
  | [d1, d2] => { results := [.lit (.bool false)], args := [d1, d2] }
  | _ => none }
def ValueMoreWrongFalsely : Prop := valueMoreRow.holds Try.pinned (OpenSpec.ofChange valueMoreWrong)

/-- 'phalaropelaw08.ValueTells': WHATEVER THE INPUT: true; the input reads as it did. -/
def valueTellsSpec : ChangeSpec := { name := "valueTells", fn := fun _ => fun
  | [d1, d2] => { results := [.lit (.bool true)], args := [d1, d2] }
  | _ => none }
def valueTellsRow : OpenClaim := { program := "ytjjmfmlgemdjkaa", sum := "a7aeb595aa41f2f9c32941c450686c7cc929795a73248cabbe27cf2eac205ac8", func := "phalarope/phalaropelaw08.ValueTells", spec := "valueTells", unfollowed := true, recurses := true, apart := false }
def ValueTellsSaid : Prop := valueTellsRow.holds Try.pinned (OpenSpec.ofChange valueTellsSpec)

/-- ITS FALSE NEIGHBOUR: 'it returns false'. Refute it at one input. -/
def valueTellsWrong : ChangeSpec := { name := "valueTells", fn := fun _ => fun
  | [d1, d2] => { results := [.lit (.bool false)], args := [d1, d2] }
  | _ => none }
def ValueTellsWrongFalsely : Prop := valueTellsRow.holds Try.pinned (OpenSpec.ofChange valueTellsWrong)

/-- 'phalaropelaw08.ValueCanon': WHATEVER THE INPUT: true; the input reads as it did. -/
def valueCanonSpec : ChangeSpec := { name := "valueCanon", fn := fun _ => fun
  | [d] => { results := [.lit (.bool true)], args := [d] }
  | _ => none }
def valueCanonRow : OpenClaim := { program := "ytjjmfmlgemdjkaa", sum := "a7aeb595aa41f2f9c32941c450686c7cc929795a73248cabbe27cf2eac205ac8", func := "phalarope/phalaropelaw08.ValueCanon", spec := "valueCanon", unfollowed := true, recurses := true, apart := false }
def ValueCanonSaid : Prop := valueCanonRow.holds Try.pinned (OpenSpec.ofChange valueCanonSpec)

/-- ITS FALSE NEIGHBOUR: 'it returns false'. Refute it at one input. -/
def valueCanonWrong : ChangeSpec := { name := "valueCanon", fn := fun _ => fun
  | [d] => { results := [.lit (.bool false)], args := [d] }
  | _ => none }
def ValueCanonWrongFalsely : Prop := valueCanonRow.holds Try.pinned (OpenSpec.ofChange valueCanonWrong)

/-- 'phalaropelaw08.ValueOnly': WHATEVER THE INPUT: true; the input reads as it did. -/
def valueOnlySpec : ChangeSpec := { name := "valueOnly", fn := fun _ => fun
  | [d1, d2] => { results := [.lit (.bool true)], args := [d1, d2] }
  | _ => none }
def valueOnlyRow : OpenClaim := { program := "ytjjmfmlgemdjkaa", sum := "a7aeb595aa41f2f9c32941c450686c7cc929795a73248cabbe27cf2eac205ac8", func := "phalarope/phalaropelaw08.ValueOnly", spec := "valueOnly", unfollowed := true, recurses := true, apart := false }
def ValueOnlySaid : Prop := valueOnlyRow.holds Try.pinned (OpenSpec.ofChange valueOnlySpec)

/-- ITS FALSE NEIGHBOUR: 'it returns false'. Refute it at one input. -/
def valueOnlyWrong : ChangeSpec := { name := "valueOnly", fn := fun _ => fun
  | [d1, d2] => { results := [.lit (.bool false)], args := [d1, d2] }
  | _ => none }
def ValueOnlyWrongFalsely : Prop := valueOnlyRow.holds Try.pinned (OpenSpec.ofChange valueOnlyWrong)

/- THE SECOND FORM. 'bulk': how many values and letters a reading holds, each counted each time it is reached (what is shared counts as often as it is met; a slice's spare places count too). A statement '..UptoSaid' is the law's where the arguments, and the package variables that the reading takes, are together of bulk at most 1048576: NARROWER than '..Said'. Prove '..Said' where nothing that the law and all that it calls make is longer than what came in: it says more and counts as full. Else prove '..UptoSaid'. A law counts once. -/
mutual
def uptoBulk {H : Type} : DataW H → Nat
  | .lit (.string bytes) => bytes.length + 1
  | .lit _ => 1
  | .nil => 1
  | .ptr d => uptoBulk d + 1
  | .slice elems spare => uptoBulkAll elems + uptoBulkAll spare + 1
  | .agg parts => uptoBulkAll parts + 1
  | .iface _ d => uptoBulk d + 1
  | .map entries => uptoBulkEntries entries + 1
  | .held _ => 1
def uptoBulkAll {H : Type} : List (DataW H) → Nat
  | [] => 0
  | d :: r => uptoBulk d + uptoBulkAll r
def uptoBulkEntries {H : Type} : List (Lit × DataW H) → Nat
  | [] => 0
  | x :: r => uptoBulkEntry x + uptoBulkEntries r
def uptoBulkEntry {H : Type} : Lit × DataW H → Nat
  | (.string bytes, d) => bytes.length + uptoBulk d + 1
  | (_, d) => uptoBulk d + 1
 end
def uptoSmall : (H : Type) → List (DataW H) → Bool := fun _ ds => decide (uptoBulkAll ds ≤ 1048576)
def OpenSpec.upto (s : _root_.Go.ChangeSpec) : _root_.Go.OpenSpec := { _root_.Go.OpenSpec.ofChange s with cond := some uptoSmall }

/-- 'phalaropelaw01.UtfText', WHERE WHAT IT READS IS OF BULK AT MOST 1048576: true; the input reads as it did. -/
def utfTextUptoRow : OpenClaim := { program := "ytjjmfmlgemdjkaa", sum := "a7aeb595aa41f2f9c32941c450686c7cc929795a73248cabbe27cf2eac205ac8", func := "phalarope/phalaropelaw01.UtfText", spec := "utfText", unfollowed := true, recurses := true, apart := false, narrowed := true }
def UtfTextUptoSaid : Prop := utfTextUptoRow.holds Try.pinned (OpenSpec.upto utfTextSpec)

/-- 'phalaropelaw01.UtfBack', WHERE WHAT IT READS IS OF BULK AT MOST 1048576: true; the input reads as it did. -/
def utfBackUptoRow : OpenClaim := { program := "ytjjmfmlgemdjkaa", sum := "a7aeb595aa41f2f9c32941c450686c7cc929795a73248cabbe27cf2eac205ac8", func := "phalarope/phalaropelaw01.UtfBack", spec := "utfBack", unfollowed := true, recurses := true, apart := false, narrowed := true }
def UtfBackUptoSaid : Prop := utfBackUptoRow.holds Try.pinned (OpenSpec.upto utfBackSpec)

/-- 'phalaropelaw01.UtfJoins', WHERE WHAT IT READS IS OF BULK AT MOST 1048576: true; the input reads as it did. -/
def utfJoinsUptoRow : OpenClaim := { program := "ytjjmfmlgemdjkaa", sum := "a7aeb595aa41f2f9c32941c450686c7cc929795a73248cabbe27cf2eac205ac8", func := "phalarope/phalaropelaw01.UtfJoins", spec := "utfJoins", unfollowed := true, recurses := true, apart := false, narrowed := true }
def UtfJoinsUptoSaid : Prop := utfJoinsUptoRow.holds Try.pinned (OpenSpec.upto utfJoinsSpec)

/-- 'phalaropelaw01.UtfOne', WHERE WHAT IT READS IS OF BULK AT MOST 1048576: true; the input reads as it did. -/
def utfOneUptoRow : OpenClaim := { program := "ytjjmfmlgemdjkaa", sum := "a7aeb595aa41f2f9c32941c450686c7cc929795a73248cabbe27cf2eac205ac8", func := "phalarope/phalaropelaw01.UtfOne", spec := "utfOne", unfollowed := true, recurses := true, apart := false, narrowed := true }
def UtfOneUptoSaid : Prop := utfOneUptoRow.holds Try.pinned (OpenSpec.upto utfOneSpec)

/-- 'phalaropelaw01.UtfChars', WHERE WHAT IT READS IS OF BULK AT MOST 1048576: true; the input reads as it did. -/
def utfCharsUptoRow : OpenClaim := { program := "ytjjmfmlgemdjkaa", sum := "a7aeb595aa41f2f9c32941c450686c7cc929795a73248cabbe27cf2eac205ac8", func := "phalarope/phalaropelaw01.UtfChars", spec := "utfChars", unfollowed := true, recurses := true, apart := false, narrowed := true }
def UtfCharsUptoSaid : Prop := utfCharsUptoRow.holds Try.pinned (OpenSpec.upto utfCharsSpec)

/-- 'phalaropelaw01.UtfPrefix', WHERE WHAT IT READS IS OF BULK AT MOST 1048576: true; the input reads as it did. -/
def utfPrefixUptoRow : OpenClaim := { program := "ytjjmfmlgemdjkaa", sum := "a7aeb595aa41f2f9c32941c450686c7cc929795a73248cabbe27cf2eac205ac8", func := "phalarope/phalaropelaw01.UtfPrefix", spec := "utfPrefix", unfollowed := true, recurses := true, apart := false, narrowed := true }
def UtfPrefixUptoSaid : Prop := utfPrefixUptoRow.holds Try.pinned (OpenSpec.upto utfPrefixSpec)

/-- 'phalaropelaw04.UcsTells', WHERE WHAT IT READS IS OF BULK AT MOST 1048576: true; the input reads as it did. -/
def ucsTellsUptoRow : OpenClaim := { program := "ytjjmfmlgemdjkaa", sum := "a7aeb595aa41f2f9c32941c450686c7cc929795a73248cabbe27cf2eac205ac8", func := "phalarope/phalaropelaw04.UcsTells", spec := "ucsTells", unfollowed := true, recurses := true, apart := false, narrowed := true }
def UcsTellsUptoSaid : Prop := ucsTellsUptoRow.holds Try.pinned (OpenSpec.upto ucsTellsSpec)

/-- 'phalaropelaw04.UcsBegins', WHERE WHAT IT READS IS OF BULK AT MOST 1048576: true; the input reads as it did. -/
def ucsBeginsUptoRow : OpenClaim := { program := "ytjjmfmlgemdjkaa", sum := "a7aeb595aa41f2f9c32941c450686c7cc929795a73248cabbe27cf2eac205ac8", func := "phalarope/phalaropelaw04.UcsBegins", spec := "ucsBegins", unfollowed := true, recurses := true, apart := false, narrowed := true }
def UcsBeginsUptoSaid : Prop := ucsBeginsUptoRow.holds Try.pinned (OpenSpec.upto ucsBeginsSpec)

/-- 'phalaropelaw04.UcsCut', WHERE WHAT IT READS IS OF BULK AT MOST 1048576: true; the input reads as it did. -/
def ucsCutUptoRow : OpenClaim := { program := "ytjjmfmlgemdjkaa", sum := "a7aeb595aa41f2f9c32941c450686c7cc929795a73248cabbe27cf2eac205ac8", func := "phalarope/phalaropelaw04.UcsCut", spec := "ucsCut", unfollowed := true, recurses := true, apart := false, narrowed := true }
def UcsCutUptoSaid : Prop := ucsCutUptoRow.holds Try.pinned (OpenSpec.upto ucsCutSpec)

/-- 'phalaropelaw04.UcsWhole', WHERE WHAT IT READS IS OF BULK AT MOST 1048576: true; the input reads as it did. -/
def ucsWholeUptoRow : OpenClaim := { program := "ytjjmfmlgemdjkaa", sum := "a7aeb595aa41f2f9c32941c450686c7cc929795a73248cabbe27cf2eac205ac8", func := "phalarope/phalaropelaw04.UcsWhole", spec := "ucsWhole", unfollowed := true, recurses := true, apart := false, narrowed := true }
def UcsWholeUptoSaid : Prop := ucsWholeUptoRow.holds Try.pinned (OpenSpec.upto ucsWholeSpec)

/-- 'phalaropelaw04.UcsPlanes', WHERE WHAT IT READS IS OF BULK AT MOST 1048576: true; the input reads as it did. -/
def ucsPlanesUptoRow : OpenClaim := { program := "ytjjmfmlgemdjkaa", sum := "a7aeb595aa41f2f9c32941c450686c7cc929795a73248cabbe27cf2eac205ac8", func := "phalarope/phalaropelaw04.UcsPlanes", spec := "ucsPlanes", unfollowed := true, recurses := true, apart := false, narrowed := true }
def UcsPlanesUptoSaid : Prop := ucsPlanesUptoRow.holds Try.pinned (OpenSpec.upto ucsPlanesSpec)

/-- 'phalaropelaw04.UcsEnds', WHERE WHAT IT READS IS OF BULK AT MOST 1048576: true; the input reads as it did. -/
def ucsEndsUptoRow : OpenClaim := { program := "ytjjmfmlgemdjkaa", sum := "a7aeb595aa41f2f9c32941c450686c7cc929795a73248cabbe27cf2eac205ac8", func := "phalarope/phalaropelaw04.UcsEnds", spec := "ucsEnds", unfollowed := true, recurses := true, apart := false, narrowed := true }
def UcsEndsUptoSaid : Prop := ucsEndsUptoRow.holds Try.pinned (OpenSpec.upto ucsEndsSpec)

/-- 'phalaropelaw08.ValueOf', WHERE WHAT IT READS IS OF BULK AT MOST 1048576: true; the input reads as it did. -/
def valueOfUptoRow : OpenClaim := { program := "ytjjmfmlgemdjkaa", sum := "a7aeb595aa41f2f9c32941c450686c7cc929795a73248cabbe27cf2eac205ac8", func := "phalarope/phalaropelaw08.ValueOf", spec := "valueOf", unfollowed := true, recurses := true, apart := false, narrowed := true }
def ValueOfUptoSaid : Prop := valueOfUptoRow.holds Try.pinned (OpenSpec.upto valueOfSpec)

/-- 'phalaropelaw08.ValueOrder', WHERE WHAT IT READS IS OF BULK AT MOST 1048576: true; the input reads as it did. -/
def valueOrderUptoRow : OpenClaim := { program := "ytjjmfmlgemdjkaa", sum := "a7aeb595aa41f2f9c32941c450686c7cc929795a73248cabbe27cf2eac205ac8", func := "phalarope/phalaropelaw08.ValueOrder", spec := "valueOrder", unfollowed := true, recurses := true, apart := false, narrowed := true }
def ValueOrderUptoSaid : Prop := valueOrderUptoRow.holds Try.pinned (OpenSpec.upto valueOrderSpec)

/-- 'phalaropelaw08.ValueMore', WHERE WHAT IT READS IS OF BULK AT MOST 1048576: true; the input reads as it did. -/
def valueMoreUptoRow : OpenClaim := { program := "ytjjmfmlgemdjkaa", sum := "a7aeb595aa41f2f9c32941c450686c7cc929795a73248cabbe27cf2eac205ac8", func := "phalarope/phalaropelaw08.ValueMore", spec := "valueMore", unfollowed := true, recurses := true, apart := false, narrowed := true }
def ValueMoreUptoSaid : Prop := valueMoreUptoRow.holds Try.pinned (OpenSpec.upto valueMoreSpec)

/-- 'phalaropelaw08.ValueTells', WHERE WHAT IT READS IS OF BULK AT MOST 1048576: true; the input reads as it did. -/
def valueTellsUptoRow : OpenClaim := { program := "ytjjmfmlgemdjkaa", sum := "a7aeb595aa41f2f9c32941c450686c7cc929795a73248cabbe27cf2eac205ac8", func := "phalarope/phalaropelaw08.ValueTells", spec := "valueTells", unfollowed := true, recurses := true, apart := false, narrowed := true }
def ValueTellsUptoSaid : Prop := valueTellsUptoRow.holds Try.pinned (OpenSpec.upto valueTellsSpec)

/-- 'phalaropelaw08.ValueCanon', WHERE WHAT IT READS IS OF BULK AT MOST 1048576: true; the input reads as it did. -/
def valueCanonUptoRow : OpenClaim := { program := "ytjjmfmlgemdjkaa", sum := "a7aeb595aa41f2f9c32941c450686c7cc929795a73248cabbe27cf2eac205ac8", func := "phalarope/phalaropelaw08.ValueCanon", spec := "valueCanon", unfollowed := true, recurses := true, apart := false, narrowed := true }
def ValueCanonUptoSaid : Prop := valueCanonUptoRow.holds Try.pinned (OpenSpec.upto valueCanonSpec)

/-- 'phalaropelaw08.ValueOnly', WHERE WHAT IT READS IS OF BULK AT MOST 1048576: true; the input reads as it did. -/
def valueOnlyUptoRow : OpenClaim := { program := "ytjjmfmlgemdjkaa", sum := "a7aeb595aa41f2f9c32941c450686c7cc929795a73248cabbe27cf2eac205ac8", func := "phalarope/phalaropelaw08.ValueOnly", spec := "valueOnly", unfollowed := true, recurses := true, apart := false, narrowed := true }
def ValueOnlyUptoSaid : Prop := valueOnlyUptoRow.holds Try.pinned (OpenSpec.upto valueOnlySpec)

end Rows
end Go.Proofs.Ytjjmfmlgemdjkaa
