/- What the row's list of the library's tables, and the world's shape, give: the premise of chars' contracts. -/
import Derived.Test.YtaeikiigdfgmaaaDoorLaid
import Derived.Test.YtaeikiigdfgmaaaDoorGivenChars
import Derived.Lib.LaidU8T
namespace Go.Proofs.YtaeikiigdfgmaaaDoor
set_option linter.unusedVariables false
open Go.ChangeShapes Go.WideShapes Go.ChangeAt Go.RowKit Go.Lib

set_option maxRecDepth 100000 in
set_option maxHeartbeats 2000000 in
theorem tabs_of {W : World} (hL : laidMetH Tryd.prog laidList W) : Lib.Utf8Tabs 0 1 W :=
  utf8Tabs_of_readsT (U8Types.of196 Tryd.lays196) ⟨by kernel_rfl, by kernel_rfl, by kernel_rfl, by kernel_rfl, by kernel_rfl, by kernel_rfl, by kernel_rfl⟩ (Lib.laidMet.reads hL (.tail _ (.head _))) (Lib.laidMet.reads hL (.head _))
theorem g_of {W : World} (hL : laidMetH Tryd.prog laidList W) (hS : W.ShapedOpen Tryd.prog) : G W := ⟨tabs_of hL, Tryd.laysM155.s1_3 W hS⟩
end Go.Proofs.YtaeikiigdfgmaaaDoor
