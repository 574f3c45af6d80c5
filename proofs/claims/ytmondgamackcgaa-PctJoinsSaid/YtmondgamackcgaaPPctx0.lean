-- PRINTED by print.py (a twelfth state) out of the translation. Not trusted: Lean checks it.
import Derived.Test.YtmondgamackcgaaProg
import Derived.Below
import Derived.Deep.Draws
import Derived.Deep.AppendLies
import Derived.Maps.AppendAt
import Derived.OwnWalk
import Derived.Laws.BytesArg
import Derived.Laws.MakeOwn
import Derived.Laws.OwnMore
import Derived.Deep.OwnRows
import Derived.Tactics
import Derived.Lib.ConvBytes
import Derived.Laws.Slices
import Derived.WalkKit
import Derived.KernelRfl
import Derived.RowKit3
import Derived.Deep.LoopGhost
import Derived.Deep.QuietTactic
import Derived.BigQuiet
import Derived.WideLaws
import Derived.Deep.DeepCutAuto
import Derived.Deep.CutBlock
import Derived.Deep.RegionHeld3
import Derived.Laws.Rows
import Derived.Lib.AppendStr
import Derived.ArgAppend
import Derived.Laws.IdiomCopy
import Derived.OrdersHeld
import Derived.Laws.BitsLemmas
import Derived.RowKit
import Derived.Test.YtmondgamackcgaaPctC
import Derived.Test.YtmondgamackcgaaPctE
import Derived.Test.YtmondgamackcgaaWWords
import Derived.Test.YtmondgamackcgaaWLast
import Derived.Test.YtmondgamackcgaaWTab
import Derived.Test.YtmondgamackcgaaWFour
import Derived.Test.YtmondgamackcgaaWQPut
import Derived.Test.YtmondgamackcgaaWApart
import Derived.Test.YtmondgamackcgaaWArr
import Derived.Test.YtmondgamackcgaaWZeros
import Derived.Test.YtmondgamackcgaaWFoot
import Derived.Test.YtmondgamackcgaaWKept
import Derived.Test.YtmondgamackcgaaWShare
import Derived.Test.YtmondgamackcgaaWN
import Derived.Test.YtmondgamackcgaaWFootNe
import Derived.Test.YtmondgamackcgaaWAt
import Derived.Test.YtmondgamackcgaaWEqStruct
import Derived.Test.YtmondgamackcgaaWRepsOne
import Derived.Test.YtmondgamackcgaaWInv
import Derived.Test.YtmondgamackcgaaWInvWords
import Derived.Test.YtmondgamackcgaaWGuard
import Derived.Test.YtmondgamackcgaaWNEv
import Derived.Test.YtmondgamackcgaaWMore
import Derived.Test.YtmondgamackcgaaWSized
namespace Go.Proofs.Ytmondgamackcgaa.PPct
open Go.RowKit Go.Proofs.YtmondgamackcgaaW.PrintWords Go.Proofs.YtmondgamackcgaaW.PrintLast Go.Proofs.YtmondgamackcgaaW.PrintMore
attribute [local go_sem] max2_int min2_int max_two min_two max_three min_three max_four min_four   -- for this text's walks alone
set_option linter.unusedVariables false
set_option linter.unusedSimpArgs false



def errW : Option Int → Value
  | none => .nilIface
  | some c => .iface 0 (.int .i64 c)
theorem errW_none : errW none = .nilIface := rfl
theorem errW_some (c : Int) : errW (some c) = .iface 0 (.int .i64 c) := rfl

theorem info5 : (Try.prog.info? 5).map (fun i => (i.zero, i.size, i.bytes)) = some (some (.int .u8 0), 1, 1) := by kernel_rfl
-- the values' own types

end Go.Proofs.Ytmondgamackcgaa.PPct
