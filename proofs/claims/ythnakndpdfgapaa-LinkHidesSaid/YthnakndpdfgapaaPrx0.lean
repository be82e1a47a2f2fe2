-- Written by wip/tools/pr.sh out of Lean's own print of the translation. Not trusted: Lean checks it.
import Derived.Test.YthnakndpdfgapaaProg
import Derived.WalkMore
import Derived.Below
import Derived.Deep.Draws
import Derived.Deep.AppendLies
import Derived.Maps.AppendAt
import Derived.OwnWalk
import Derived.Laws.BytesArg
import Derived.Laws.MakeOwn
import Derived.Laws.OwnMore
import Derived.Deep.OwnRows
import Derived.Tactics
import Derived.Lib.ConvBytes
import Derived.Laws.Slices
import Derived.WalkKit
import Derived.KernelRfl
import Derived.RowKit3
import Derived.Deep.LoopGhost
import Derived.Deep.QuietTactic
import Derived.BigQuiet
import Derived.WideLaws
import Derived.Deep.DeepCutAuto
import Derived.Deep.CutBlock
import Derived.Deep.RegionHeld3
import Derived.Laws.Rows
import Derived.Lib.AppendStr
import Derived.ArgAppend
import Derived.Laws.IdiomCopy
import Derived.OrdersHeld
import Derived.Laws.BitsLemmas
import Derived.RowKit
import Derived.Test.YthnakndpdfgapaaGivenLink
import Derived.Test.YthnakndpdfgapaaWWords
import Derived.Test.YthnakndpdfgapaaWLast
import Derived.Test.YthnakndpdfgapaaWTab
import Derived.Test.YthnakndpdfgapaaWFour
import Derived.Test.YthnakndpdfgapaaWQPut
import Derived.Test.YthnakndpdfgapaaWApart
import Derived.Test.YthnakndpdfgapaaWArr
import Derived.Test.YthnakndpdfgapaaWZeros
import Derived.Test.YthnakndpdfgapaaWFoot
import Derived.Test.YthnakndpdfgapaaWKept
import Derived.Test.YthnakndpdfgapaaWShare
import Derived.Test.YthnakndpdfgapaaWN
import Derived.Test.YthnakndpdfgapaaWFootNe
import Derived.Test.YthnakndpdfgapaaWAt
import Derived.Test.YthnakndpdfgapaaWEqStruct
import Derived.Test.YthnakndpdfgapaaWRepsOne
import Derived.Test.YthnakndpdfgapaaWInv
import Derived.Test.YthnakndpdfgapaaWInvWords
import Derived.Test.YthnakndpdfgapaaWGuard
import Derived.Test.YthnakndpdfgapaaWNEv
import Derived.Test.YthnakndpdfgapaaWMore
namespace Go.Proofs.Ythnakndpdfgapaa.Pr
open Go.RowKit Go.Proofs.YthnakndpdfgapaaW.PrintWords Go.Proofs.YthnakndpdfgapaaW.PrintLast Go.Proofs.YthnakndpdfgapaaW.PrintMore
attribute [local go_sem] max2_int min2_int max_two min_two max_three min_three max_four min_four   -- for this text's walks alone
set_option linter.unusedVariables false
set_option linter.unusedSimpArgs false



def errW : Option Int → Value
  | none => .nilIface
  | some c => .iface 0 (.int .i64 c)
theorem errW_none : errW none = .nilIface := rfl
theorem errW_some (c : Int) : errW (some c) = .iface 0 (.int .i64 c) := rfl

theorem info5 : (Try.prog.info? 5).map (fun i => (i.zero, i.size, i.bytes)) = some (some (.int .u8 0), 1, 1) := by kernel_rfl
-- the values' own types

end Go.Proofs.Ythnakndpdfgapaa.Pr
