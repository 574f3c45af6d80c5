-- PRINTED by print.py (a twelfth state) out of the translation. Not trusted: Lean checks it.
import Derived.Test.YtmondgamackcgaaDoorProg
import Derived.Below
import Derived.Deep.Draws
import Derived.Deep.AppendLies
import Derived.Maps.AppendAt
import Derived.OwnWalk
import Derived.Laws.BytesArg
import Derived.Laws.MakeOwn
import Derived.Laws.OwnMore
import Derived.Deep.OwnRows
import Derived.Tactics
import Derived.Lib.ConvBytes
import Derived.Laws.Slices
import Derived.WalkKit
import Derived.KernelRfl
import Derived.RowKit3
import Derived.Deep.LoopGhost
import Derived.Deep.QuietTactic
import Derived.BigQuiet
import Derived.WideLaws
import Derived.Deep.DeepCutAuto
import Derived.Deep.CutBlock
import Derived.Deep.RegionHeld3
import Derived.Laws.Rows
import Derived.Lib.AppendStr
import Derived.ArgAppend
import Derived.Laws.IdiomCopy
import Derived.OrdersHeld
import Derived.Laws.BitsLemmas
import Derived.RowKit
import Derived.Test.YtmondgamackcgaaDoorVnA
import Derived.Test.YtmondgamackcgaaDoorVnB
import Derived.Test.YtmondgamackcgaaDoorWWords
import Derived.Test.YtmondgamackcgaaDoorWLast
import Derived.Test.YtmondgamackcgaaDoorWTab
import Derived.Test.YtmondgamackcgaaDoorWFour
import Derived.Test.YtmondgamackcgaaDoorWQPut
import Derived.Test.YtmondgamackcgaaDoorWApart
import Derived.Test.YtmondgamackcgaaDoorWArr
import Derived.Test.YtmondgamackcgaaDoorWZeros
import Derived.Test.YtmondgamackcgaaDoorWFoot
import Derived.Test.YtmondgamackcgaaDoorWKept
import Derived.Test.YtmondgamackcgaaDoorWShare
import Derived.Test.YtmondgamackcgaaDoorWN
import Derived.Test.YtmondgamackcgaaDoorWFootNe
import Derived.Test.YtmondgamackcgaaDoorWAt
import Derived.Test.YtmondgamackcgaaDoorWEqStruct
import Derived.Test.YtmondgamackcgaaDoorWRepsOne
import Derived.Test.YtmondgamackcgaaDoorWInv
import Derived.Test.YtmondgamackcgaaDoorWInvWords
import Derived.Test.YtmondgamackcgaaDoorWGuard
import Derived.Test.YtmondgamackcgaaDoorWNEv
import Derived.Test.YtmondgamackcgaaDoorWMore
import Derived.Test.YtmondgamackcgaaDoorWSized
namespace Go.Proofs.YtmondgamackcgaaDoor.PVn
open Go.RowKit Go.Proofs.YtmondgamackcgaaDoorW.PrintWords Go.Proofs.YtmondgamackcgaaDoorW.PrintLast Go.Proofs.YtmondgamackcgaaDoorW.PrintMore
attribute [local go_sem] max2_int min2_int max_two min_two max_three min_three max_four min_four   -- for this text's walks alone
set_option linter.unusedVariables false
set_option linter.unusedSimpArgs false



def errW : Option Int → Value
  | none => .nilIface
  | some c => .iface 0 (.int .i64 c)
theorem errW_none : errW none = .nilIface := rfl
theorem errW_some (c : Int) : errW (some c) = .iface 0 (.int .i64 c) := rfl

theorem info5 : (Tryd.prog.info? 5).map (fun i => (i.zero, i.size, i.bytes)) = some (some (.int .u8 0), 1, 1) := by kernel_rfl
theorem info9 : (Tryd.prog.info? 9).map (fun i => (i.zero, i.size, i.bytes)) = some (some (.string ⟨#[]⟩), 1, 16) := by kernel_rfl
-- the values' own types

end Go.Proofs.YtmondgamackcgaaDoor.PVn
