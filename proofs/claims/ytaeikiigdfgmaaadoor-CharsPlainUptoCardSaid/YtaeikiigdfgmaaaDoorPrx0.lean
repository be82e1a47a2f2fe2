-- Written by wip/tools/pr.sh out of Lean's own print of the translation. Not trusted: Lean checks it.
import Derived.Test.YtaeikiigdfgmaaaDoorProg
import Derived.WalkMore
import Derived.Below
import Derived.Deep.Draws
import Derived.Deep.AppendLies
import Derived.Maps.AppendAt
import Derived.OwnWalk
import Derived.Laws.BytesArg
import Derived.Laws.MakeOwn
import Derived.Laws.OwnMore
import Derived.Deep.OwnRows
import Derived.Tactics
import Derived.Lib.ConvBytes
import Derived.Laws.Slices
import Derived.WalkKit
import Derived.KernelRfl
import Derived.RowKit3
import Derived.Deep.LoopGhost
import Derived.Deep.QuietTactic
import Derived.BigQuiet
import Derived.WideLaws
import Derived.Deep.DeepCutAuto
import Derived.Deep.CutBlock
import Derived.Deep.RegionHeld3
import Derived.Laws.Rows
import Derived.Lib.AppendStr
import Derived.ArgAppend
import Derived.Laws.IdiomCopy
import Derived.OrdersHeld
import Derived.Laws.BitsLemmas
import Derived.RowKit
import Derived.Test.YtaeikiigdfgmaaaDoorGivenChars
import Derived.Test.YtaeikiigdfgmaaaDoorWWords
import Derived.Test.YtaeikiigdfgmaaaDoorWLast
import Derived.Test.YtaeikiigdfgmaaaDoorWTab
import Derived.Test.YtaeikiigdfgmaaaDoorWFour
import Derived.Test.YtaeikiigdfgmaaaDoorWQPut
import Derived.Test.YtaeikiigdfgmaaaDoorWApart
import Derived.Test.YtaeikiigdfgmaaaDoorWArr
import Derived.Test.YtaeikiigdfgmaaaDoorWZeros
import Derived.Test.YtaeikiigdfgmaaaDoorWFoot
import Derived.Test.YtaeikiigdfgmaaaDoorWKept
import Derived.Test.YtaeikiigdfgmaaaDoorWShare
import Derived.Test.YtaeikiigdfgmaaaDoorWN
import Derived.Test.YtaeikiigdfgmaaaDoorWFootNe
import Derived.Test.YtaeikiigdfgmaaaDoorWAt
import Derived.Test.YtaeikiigdfgmaaaDoorWEqStruct
import Derived.Test.YtaeikiigdfgmaaaDoorWRepsOne
import Derived.Test.YtaeikiigdfgmaaaDoorWInv
import Derived.Test.YtaeikiigdfgmaaaDoorWInvWords
import Derived.Test.YtaeikiigdfgmaaaDoorWGuard
import Derived.Test.YtaeikiigdfgmaaaDoorWNEv
import Derived.Test.YtaeikiigdfgmaaaDoorWMore
namespace Go.Proofs.YtaeikiigdfgmaaaDoor.Pr
open Go.RowKit Go.Proofs.YtaeikiigdfgmaaaDoorW.PrintWords Go.Proofs.YtaeikiigdfgmaaaDoorW.PrintLast Go.Proofs.YtaeikiigdfgmaaaDoorW.PrintMore
attribute [local go_sem] max2_int min2_int max_two min_two max_three min_three max_four min_four   -- for this text's walks alone
set_option linter.unusedVariables false
set_option linter.unusedSimpArgs false



def errW : Option Int → Value
  | none => .nilIface
  | some c => .iface 0 (.int .i64 c)
theorem errW_none : errW none = .nilIface := rfl
theorem errW_some (c : Int) : errW (some c) = .iface 0 (.int .i64 c) := rfl

theorem info5 : (Tryd.prog.info? 5).map (fun i => (i.zero, i.size, i.bytes)) = some (some (.int .u8 0), 1, 1) := by kernel_rfl
-- the values' own types

end Go.Proofs.YtaeikiigdfgmaaaDoor.Pr
