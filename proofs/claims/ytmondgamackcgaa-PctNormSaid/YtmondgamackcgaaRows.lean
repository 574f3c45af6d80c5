/-
  No cell of these rows narrows 'for every input' (looked for: loops, veiled, ifaces, maps, wideKeys, modest, calm, conditions, laid).
  DERIVED. THE GIVEN ROWS OF THIS SEAT. 12 by the template 'for every input the law returns true; each argument reads behind the call as it read before'; 0 by the template 'total and deterministic' (their statements: YtmondgamackcgaaTotals.lean).
  GIVEN WITH THE SEED: the statements are not yours to turn. If you find one false, say at which input.
  Laid BY PROGRAM, IN A SANDBOX (cutbox-rows.mjs): the forced cells as the released guide's own fill.sh prints them over the translation 8484d22a110070ec… (all of the seat's roots in one cut). By AI agents, Wed Nov 11 2026. No macro, syntax, notation, axiom, sorry.
-/
import Derived.Test.YtmondgamackcgaaChecked
import GoSem.Claim
import GoSem.ClaimJoined
import GoSem.ClaimMapViews
import Derived.JoinedTies
import Derived.KernelRfl
namespace Go.Proofs.Ytmondgamackcgaa
/- THE CELL 'sum', in the pinned program and in every row, IS THE sha256 OF THE DUMP (.gsa) THAT YtmondgamackcgaaProg.lean LOADS. Nothing in Lean hashes anything: it is a label: what it is worth is what the hold of that sum in a sandbox is worth. -/
noncomputable def Try.pinned : Pinned := { name := "ytmondgamackcgaa", sum := "8484d22a110070ec4a7f64032ce8c0e6aac774e3e5f724fd9cb811d3d533d3c2", checked := Try.checked }
namespace Rows
def none {H : Type} : Left H := { results := [], args := [] }

/-- 'phalaropelaw02.CharsHas': WHATEVER THE INPUT: true; the input reads as it did. -/
def charsHasSpec : ChangeSpec := { name := "charsHas", fn := fun _ => fun
  | [d1, d2] => { results := [.lit (.bool true)], args := [d1, d2] }
  | _ => none }
def charsHasRow : OpenClaim := { program := "ytmondgamackcgaa", sum := "8484d22a110070ec4a7f64032ce8c0e6aac774e3e5f724fd9cb811d3d533d3c2", func := "phalarope/phalaropelaw02.CharsHas", spec := "charsHas", apart := false }
def CharsHasSaid : Prop := charsHasRow.holds Try.pinned (OpenSpec.ofChange charsHasSpec)

/-- ITS FALSE NEIGHBOUR: 'it returns false'. Refute it at one input. -/
def charsHasWrong : ChangeSpec := { name := "charsHas", fn := fun _ => fun
  | [d1, d2] => { results := [.lit (.bool false)], args := [d1, d2] }
  | _ => none }
def CharsHasWrongFalsely : Prop := charsHasRow.holds Try.pinned (OpenSpec.ofChange charsHasWrong)

/-- 'phalaropelaw02.CharsOf': WHATEVER THE INPUT: true; the input reads as it did. -/
def charsOfSpec : ChangeSpec := { name := "charsOf", fn := fun _ => fun
  | [d1, d2, d3] => { results := [.lit (.bool true)], args := [d1, d2, d3] }
  | _ => none }
def charsOfRow : OpenClaim := { program := "ytmondgamackcgaa", sum := "8484d22a110070ec4a7f64032ce8c0e6aac774e3e5f724fd9cb811d3d533d3c2", func := "phalarope/phalaropelaw02.CharsOf", spec := "charsOf", apart := false }
def CharsOfSaid : Prop := charsOfRow.holds Try.pinned (OpenSpec.ofChange charsOfSpec)

/-- ITS FALSE NEIGHBOUR: 'it returns false'. Refute it at one input. -/
def charsOfWrong : ChangeSpec := { name := "charsOf", fn := fun _ => fun
  | [d1, d2, d3] => { results := [.lit (.bool false)], args := [d1, d2, d3] }
  | _ => none }
def CharsOfWrongFalsely : Prop := charsOfRow.holds Try.pinned (OpenSpec.ofChange charsOfWrong)

/-- 'phalaropelaw02.CharsSets': WHATEVER THE INPUT: true; the input reads as it did. -/
def charsSetsSpec : ChangeSpec := { name := "charsSets", fn := fun _ => fun
  | [d1, d2, d3] => { results := [.lit (.bool true)], args := [d1, d2, d3] }
  | _ => none }
def charsSetsRow : OpenClaim := { program := "ytmondgamackcgaa", sum := "8484d22a110070ec4a7f64032ce8c0e6aac774e3e5f724fd9cb811d3d533d3c2", func := "phalarope/phalaropelaw02.CharsSets", spec := "charsSets", apart := false }
def CharsSetsSaid : Prop := charsSetsRow.holds Try.pinned (OpenSpec.ofChange charsSetsSpec)

/-- ITS FALSE NEIGHBOUR: 'it returns false'. Refute it at one input. -/
def charsSetsWrong : ChangeSpec := { name := "charsSets", fn := fun _ => fun
  | [d1, d2, d3] => { results := [.lit (.bool false)], args := [d1, d2, d3] }
  | _ => none }
def CharsSetsWrongFalsely : Prop := charsSetsRow.holds Try.pinned (OpenSpec.ofChange charsSetsWrong)

/-- 'phalaropelaw02.CharsLaws': WHATEVER THE INPUT: true; the input reads as it did. -/
def charsLawsSpec : ChangeSpec := { name := "charsLaws", fn := fun _ => fun
  | [d1, d2] => { results := [.lit (.bool true)], args := [d1, d2] }
  | _ => none }
def charsLawsRow : OpenClaim := { program := "ytmondgamackcgaa", sum := "8484d22a110070ec4a7f64032ce8c0e6aac774e3e5f724fd9cb811d3d533d3c2", func := "phalarope/phalaropelaw02.CharsLaws", spec := "charsLaws", apart := false }
def CharsLawsSaid : Prop := charsLawsRow.holds Try.pinned (OpenSpec.ofChange charsLawsSpec)

/-- ITS FALSE NEIGHBOUR: 'it returns false'. Refute it at one input. -/
def charsLawsWrong : ChangeSpec := { name := "charsLaws", fn := fun _ => fun
  | [d1, d2] => { results := [.lit (.bool false)], args := [d1, d2] }
  | _ => none }
def CharsLawsWrongFalsely : Prop := charsLawsRow.holds Try.pinned (OpenSpec.ofChange charsLawsWrong)

/-- 'phalaropelaw02.CharsClasses': WHATEVER THE INPUT: true; the input reads as it did. -/
def charsClassesSpec : ChangeSpec := { name := "charsClasses", fn := fun _ => fun
  | [d] => { results := [.lit (.bool true)], args := [d] }
  | _ => none }
def charsClassesRow : OpenClaim := { program := "ytmondgamackcgaa", sum := "8484d22a110070ec4a7f64032ce8c0e6aac774e3e5f724fd9cb811d3d533d3c2", func := "phalarope/phalaropelaw02.CharsClasses", spec := "charsClasses", apart := false }
def CharsClassesSaid : Prop := charsClassesRow.holds Try.pinned (OpenSpec.ofChange charsClassesSpec)

/-- ITS FALSE NEIGHBOUR: 'it returns false'. Refute it at one input. -/
def charsClassesWrong : ChangeSpec := { name := "charsClasses", fn := fun _ => fun
  | [d] => { results := [.lit (.bool false)], args := [d] }
  | _ => none }
def CharsClassesWrongFalsely : Prop := charsClassesRow.holds Try.pinned (OpenSpec.ofChange charsClassesWrong)

/-- 'phalaropelaw02.CharsApart': WHATEVER THE INPUT: true; the input reads as it did. -/
def charsApartSpec : ChangeSpec := { name := "charsApart", fn := fun _ => fun
  | [d] => { results := [.lit (.bool true)], args := [d] }
  | _ => none }
def charsApartRow : OpenClaim := { program := "ytmondgamackcgaa", sum := "8484d22a110070ec4a7f64032ce8c0e6aac774e3e5f724fd9cb811d3d533d3c2", func := "phalarope/phalaropelaw02.CharsApart", spec := "charsApart", apart := false }
def CharsApartSaid : Prop := charsApartRow.holds Try.pinned (OpenSpec.ofChange charsApartSpec)

/-- ITS FALSE NEIGHBOUR: 'it returns false'. Refute it at one input. -/
def charsApartWrong : ChangeSpec := { name := "charsApart", fn := fun _ => fun
  | [d] => { results := [.lit (.bool false)], args := [d] }
  | _ => none }
def CharsApartWrongFalsely : Prop := charsApartRow.holds Try.pinned (OpenSpec.ofChange charsApartWrong)

/-- 'phalaropelaw03.PctOne': WHATEVER THE INPUT: true; the input reads as it did. -/
def pctOneSpec : ChangeSpec := { name := "pctOne", fn := fun _ => fun
  | [d1, d2] => { results := [.lit (.bool true)], args := [d1, d2] }
  | _ => none }
def pctOneRow : OpenClaim := { program := "ytmondgamackcgaa", sum := "8484d22a110070ec4a7f64032ce8c0e6aac774e3e5f724fd9cb811d3d533d3c2", func := "phalarope/phalaropelaw03.PctOne", spec := "pctOne", inPlace := ["internal/abi.NoEscape"], unfollowed := true, recurses := true, apart := false }
def PctOneSaid : Prop := pctOneRow.holds Try.pinned (OpenSpec.ofChange pctOneSpec)

/-- ITS FALSE NEIGHBOUR: 'it returns false'. Refute it at one input. -/
def pctOneWrong : ChangeSpec := { name := "pctOne", fn := fun _ => fun
  | [d1, d2] => { results := [.lit (.bool false)], args := [d1, d2] }
  | _ => none }
def PctOneWrongFalsely : Prop := pctOneRow.holds Try.pinned (OpenSpec.ofChange pctOneWrong)

/-- 'phalaropelaw03.PctTells': WHATEVER THE INPUT: true; the input reads as it did. -/
def pctTellsSpec : ChangeSpec := { name := "pctTells", fn := fun _ => fun
  | [d] => { results := [.lit (.bool true)], args := [d] }
  | _ => none }
def pctTellsRow : OpenClaim := { program := "ytmondgamackcgaa", sum := "8484d22a110070ec4a7f64032ce8c0e6aac774e3e5f724fd9cb811d3d533d3c2", func := "phalarope/phalaropelaw03.PctTells", spec := "pctTells", inPlace := ["internal/abi.NoEscape"], unfollowed := true, recurses := true, apart := false }
def PctTellsSaid : Prop := pctTellsRow.holds Try.pinned (OpenSpec.ofChange pctTellsSpec)

/-- ITS FALSE NEIGHBOUR: 'it returns false'. Refute it at one input. -/
def pctTellsWrong : ChangeSpec := { name := "pctTells", fn := fun _ => fun
  | [d] => { results := [.lit (.bool false)], args := [d] }
  | _ => none }
def PctTellsWrongFalsely : Prop := pctTellsRow.holds Try.pinned (OpenSpec.ofChange pctTellsWrong)

/-- 'phalaropelaw03.PctBack': WHATEVER THE INPUT: true; the input reads as it did. -/
def pctBackSpec : ChangeSpec := { name := "pctBack", fn := fun _ => fun
  | [d] => { results := [.lit (.bool true)], args := [d] }
  | _ => none }
def pctBackRow : OpenClaim := { program := "ytmondgamackcgaa", sum := "8484d22a110070ec4a7f64032ce8c0e6aac774e3e5f724fd9cb811d3d533d3c2", func := "phalarope/phalaropelaw03.PctBack", spec := "pctBack", inPlace := ["internal/abi.NoEscape"], unfollowed := true, recurses := true, apart := false }
def PctBackSaid : Prop := pctBackRow.holds Try.pinned (OpenSpec.ofChange pctBackSpec)

/-- ITS FALSE NEIGHBOUR: 'it returns false'. Refute it at one input. -/
def pctBackWrong : ChangeSpec := { name := "pctBack", fn := fun _ => fun
  | [d] => { results := [.lit (.bool false)], args := [d] }
  | _ => none }
def PctBackWrongFalsely : Prop := pctBackRow.holds Try.pinned (OpenSpec.ofChange pctBackWrong)

/-- 'phalaropelaw03.PctURI': WHATEVER THE INPUT: true; the input reads as it did. -/
def pctURISpec : ChangeSpec := { name := "pctURI", fn := fun _ => fun
  | [d1, d2] => { results := [.lit (.bool true)], args := [d1, d2] }
  | _ => none }
def pctURIRow : OpenClaim := { program := "ytmondgamackcgaa", sum := "8484d22a110070ec4a7f64032ce8c0e6aac774e3e5f724fd9cb811d3d533d3c2", func := "phalarope/phalaropelaw03.PctURI", spec := "pctURI", inPlace := ["internal/abi.NoEscape"], unfollowed := true, recurses := true, apart := false }
def PctURISaid : Prop := pctURIRow.holds Try.pinned (OpenSpec.ofChange pctURISpec)

/-- ITS FALSE NEIGHBOUR: 'it returns false'. Refute it at one input. -/
def pctURIWrong : ChangeSpec := { name := "pctURI", fn := fun _ => fun
  | [d1, d2] => { results := [.lit (.bool false)], args := [d1, d2] }
  | _ => none }
def PctURIWrongFalsely : Prop := pctURIRow.holds Try.pinned (OpenSpec.ofChange pctURIWrong)

/-- 'phalaropelaw03.PctNorm': WHATEVER THE INPUT: true; the input reads as it did. -/
def pctNormSpec : ChangeSpec := { name := "pctNorm", fn := fun _ => fun
  | [d] => { results := [.lit (.bool true)], args := [d] }
  | _ => none }
def pctNormRow : OpenClaim := { program := "ytmondgamackcgaa", sum := "8484d22a110070ec4a7f64032ce8c0e6aac774e3e5f724fd9cb811d3d533d3c2", func := "phalarope/phalaropelaw03.PctNorm", spec := "pctNorm", inPlace := ["internal/abi.NoEscape"], unfollowed := true, recurses := true, apart := false }
def PctNormSaid : Prop := pctNormRow.holds Try.pinned (OpenSpec.ofChange pctNormSpec)

/-- ITS FALSE NEIGHBOUR: 'it returns false'. Refute it at one input. -/
def pctNormWrong : ChangeSpec := { name := "pctNorm", fn := fun _ => fun
  | [d] => { results := [.lit (.bool false)], args := [d] }
  | _ => none }
def PctNormWrongFalsely : Prop := pctNormRow.holds Try.pinned (OpenSpec.ofChange pctNormWrong)

/-- 'phalaropelaw03.PctJoins': WHATEVER THE INPUT: true; the input reads as it did. -/
def pctJoinsSpec : ChangeSpec := { name := "pctJoins", fn := fun _ => fun
  | [d1, d2] => { results := [.lit (.bool true)], args := [d1, d2] }
  | _ => none }
def pctJoinsRow : OpenClaim := { program := "ytmondgamackcgaa", sum := "8484d22a110070ec4a7f64032ce8c0e6aac774e3e5f724fd9cb811d3d533d3c2", func := "phalarope/phalaropelaw03.PctJoins", spec := "pctJoins", inPlace := ["internal/abi.NoEscape"], unfollowed := true, recurses := true, apart := false }
def PctJoinsSaid : Prop := pctJoinsRow.holds Try.pinned (OpenSpec.ofChange pctJoinsSpec)

/-- ITS FALSE NEIGHBOUR: 'it returns false'. Refute it at one input. -/
def pctJoinsWrong : ChangeSpec := { name := "pctJoins", fn := fun _ => fun
  | [d1, d2] => { results := [.lit (.bool false)], args := [d1, d2] }
  | _ => none }
def PctJoinsWrongFalsely : Prop := pctJoinsRow.holds Try.pinned (OpenSpec.ofChange pctJoinsWrong)

/- THE SECOND FORM. 'bulk': how many values and letters a reading holds, each counted each time it is reached (what is shared counts as often as it is met; a slice's spare places count too). A statement '..UptoSaid' is the law's where the arguments, and the package variables that the reading takes, are together of bulk at most 1048576: NARROWER than '..Said'. Prove '..Said' where nothing that the law and all that it calls make is longer than what came in: it says more and counts as full. Else prove '..UptoSaid'. A law counts once. -/
mutual
def uptoBulk {H : Type} : DataW H → Nat
  | .lit (.string bytes) => bytes.length + 1
  | .lit _ => 1
  | .nil => 1
  | .ptr d => uptoBulk d + 1
  | .slice elems spare => uptoBulkAll elems + uptoBulkAll spare + 1
  | .agg parts => uptoBulkAll parts + 1
  | .iface _ d => uptoBulk d + 1
  | .map entries => uptoBulkEntries entries + 1
  | .held _ => 1
def uptoBulkAll {H : Type} : List (DataW H) → Nat
  | [] => 0
  | d :: r => uptoBulk d + uptoBulkAll r
def uptoBulkEntries {H : Type} : List (Lit × DataW H) → Nat
  | [] => 0
  | x :: r => uptoBulkEntry x + uptoBulkEntries r
def uptoBulkEntry {H : Type} : Lit × DataW H → Nat
  | (.string bytes, d) => bytes.length + uptoBulk d + 1
  | (_, d) => uptoBulk d + 1
 end
def uptoSmall : (H : Type) → List (DataW H) → Bool := fun _ ds => decide (uptoBulkAll ds ≤ 1048576)
def OpenSpec.upto (s : _root_.Go.ChangeSpec) : _root_.Go.OpenSpec := { _root_.Go.OpenSpec.ofChange s with cond := some uptoSmall }

/-- 'phalaropelaw02.CharsHas', WHERE WHAT IT READS IS OF BULK AT MOST 1048576: true; the input reads as it did. -/
def charsHasUptoRow : OpenClaim := { program := "ytmondgamackcgaa", sum := "8484d22a110070ec4a7f64032ce8c0e6aac774e3e5f724fd9cb811d3d533d3c2", func := "phalarope/phalaropelaw02.CharsHas", spec := "charsHas", apart := false, narrowed := true }
def CharsHasUptoSaid : Prop := charsHasUptoRow.holds Try.pinned (OpenSpec.upto charsHasSpec)

/-- 'phalaropelaw02.CharsOf', WHERE WHAT IT READS IS OF BULK AT MOST 1048576: true; the input reads as it did. -/
def charsOfUptoRow : OpenClaim := { program := "ytmondgamackcgaa", sum := "8484d22a110070ec4a7f64032ce8c0e6aac774e3e5f724fd9cb811d3d533d3c2", func := "phalarope/phalaropelaw02.CharsOf", spec := "charsOf", apart := false, narrowed := true }
def CharsOfUptoSaid : Prop := charsOfUptoRow.holds Try.pinned (OpenSpec.upto charsOfSpec)

/-- 'phalaropelaw02.CharsSets', WHERE WHAT IT READS IS OF BULK AT MOST 1048576: true; the input reads as it did. -/
def charsSetsUptoRow : OpenClaim := { program := "ytmondgamackcgaa", sum := "8484d22a110070ec4a7f64032ce8c0e6aac774e3e5f724fd9cb811d3d533d3c2", func := "phalarope/phalaropelaw02.CharsSets", spec := "charsSets", apart := false, narrowed := true }
def CharsSetsUptoSaid : Prop := charsSetsUptoRow.holds Try.pinned (OpenSpec.upto charsSetsSpec)

/-- 'phalaropelaw02.CharsLaws', WHERE WHAT IT READS IS OF BULK AT MOST 1048576: true; the input reads as it did. -/
def charsLawsUptoRow : OpenClaim := { program := "ytmondgamackcgaa", sum := "8484d22a110070ec4a7f64032ce8c0e6aac774e3e5f724fd9cb811d3d533d3c2", func := "phalarope/phalaropelaw02.CharsLaws", spec := "charsLaws", apart := false, narrowed := true }
def CharsLawsUptoSaid : Prop := charsLawsUptoRow.holds Try.pinned (OpenSpec.upto charsLawsSpec)

/-- 'phalaropelaw02.CharsClasses', WHERE WHAT IT READS IS OF BULK AT MOST 1048576: true; the input reads as it did. -/
def charsClassesUptoRow : OpenClaim := { program := "ytmondgamackcgaa", sum := "8484d22a110070ec4a7f64032ce8c0e6aac774e3e5f724fd9cb811d3d533d3c2", func := "phalarope/phalaropelaw02.CharsClasses", spec := "charsClasses", apart := false, narrowed := true }
def CharsClassesUptoSaid : Prop := charsClassesUptoRow.holds Try.pinned (OpenSpec.upto charsClassesSpec)

/-- 'phalaropelaw02.CharsApart', WHERE WHAT IT READS IS OF BULK AT MOST 1048576: true; the input reads as it did. -/
def charsApartUptoRow : OpenClaim := { program := "ytmondgamackcgaa", sum := "8484d22a110070ec4a7f64032ce8c0e6aac774e3e5f724fd9cb811d3d533d3c2", func := "phalarope/phalaropelaw02.CharsApart", spec := "charsApart", apart := false, narrowed := true }
def CharsApartUptoSaid : Prop := charsApartUptoRow.holds Try.pinned (OpenSpec.upto charsApartSpec)

/-- 'phalaropelaw03.PctOne', WHERE WHAT IT READS IS OF BULK AT MOST 1048576: true; the input reads as it did. -/
def pctOneUptoRow : OpenClaim := { program := "ytmondgamackcgaa", sum := "8484d22a110070ec4a7f64032ce8c0e6aac774e3e5f724fd9cb811d3d533d3c2", func := "phalarope/phalaropelaw03.PctOne", spec := "pctOne", inPlace := ["internal/abi.NoEscape"], unfollowed := true, recurses := true, apart := false, narrowed := true }
def PctOneUptoSaid : Prop := pctOneUptoRow.holds Try.pinned (OpenSpec.upto pctOneSpec)

/-- 'phalaropelaw03.PctTells', WHERE WHAT IT READS IS OF BULK AT MOST 1048576: true; the input reads as it did. -/
def pctTellsUptoRow : OpenClaim := { program := "ytmondgamackcgaa", sum := "8484d22a110070ec4a7f64032ce8c0e6aac774e3e5f724fd9cb811d3d533d3c2", func := "phalarope/phalaropelaw03.PctTells", spec := "pctTells", inPlace := ["internal/abi.NoEscape"], unfollowed := true, recurses := true, apart := false, narrowed := true }
def PctTellsUptoSaid : Prop := pctTellsUptoRow.holds Try.pinned (OpenSpec.upto pctTellsSpec)

/-- 'phalaropelaw03.PctBack', WHERE WHAT IT READS IS OF BULK AT MOST 1048576: true; the input reads as it did. -/
def pctBackUptoRow : OpenClaim := { program := "ytmondgamackcgaa", sum := "8484d22a110070ec4a7f64032ce8c0e6aac774e3e5f724fd9cb811d3d533d3c2", func := "phalarope/phalaropelaw03.PctBack", spec := "pctBack", inPlace := ["internal/abi.NoEscape"], unfollowed := true, recurses := true, apart := false, narrowed := true }
def PctBackUptoSaid : Prop := pctBackUptoRow.holds Try.pinned (OpenSpec.upto pctBackSpec)

/-- 'phalaropelaw03.PctURI', WHERE WHAT IT READS IS OF BULK AT MOST 1048576: true; the input reads as it did. -/
def pctURIUptoRow : OpenClaim := { program := "ytmondgamackcgaa", sum := "8484d22a110070ec4a7f64032ce8c0e6aac774e3e5f724fd9cb811d3d533d3c2", func := "phalarope/phalaropelaw03.PctURI", spec := "pctURI", inPlace := ["internal/abi.NoEscape"], unfollowed := true, recurses := true, apart := false, narrowed := true }
def PctURIUptoSaid : Prop := pctURIUptoRow.holds Try.pinned (OpenSpec.upto pctURISpec)

/-- 'phalaropelaw03.PctNorm', WHERE WHAT IT READS IS OF BULK AT MOST 1048576: true; the input reads as it did. -/
def pctNormUptoRow : OpenClaim := { program := "ytmondgamackcgaa", sum := "8484d22a110070ec4a7f64032ce8c0e6aac774e3e5f724fd9cb811d3d533d3c2", func := "phalarope/phalaropelaw03.PctNorm", spec := "pctNorm", inPlace := ["internal/abi.NoEscape"], unfollowed := true, recurses := true, apart := false, narrowed := true }
def PctNormUptoSaid : Prop := pctNormUptoRow.holds Try.pinned (OpenSpec.upto pctNormSpec)

/-- 'phalaropelaw03.PctJoins', WHERE WHAT IT READS IS OF BULK AT MOST 1048576: true; the input reads as it did. -/
def pctJoinsUptoRow : OpenClaim := { program := "ytmondgamackcgaa", sum := "8484d22a110070ec4a7f64032ce8c0e6aac774e3e5f724fd9cb811d3d533d3c2", func := "phalarope/phalaropelaw03.PctJoins", spec := "pctJoins", inPlace := ["internal/abi.NoEscape"], unfollowed := true, recurses := true, apart := false, narrowed := true }
def PctJoinsUptoSaid : Prop := pctJoinsUptoRow.holds Try.pinned (OpenSpec.upto pctJoinsSpec)

end Rows
end Go.Proofs.Ytmondgamackcgaa
