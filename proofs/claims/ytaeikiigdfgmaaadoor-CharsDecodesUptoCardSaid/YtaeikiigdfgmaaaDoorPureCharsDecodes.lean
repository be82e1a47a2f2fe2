/- CharsDecodes: what any bytes are decoded as, whether they are right, how many characters they are. Plain Lean. -/
import Derived.Test.YtaeikiigdfgmaaaDoorCharsRef
import Derived.Test.YtaeikiigdfgmaaaDoorOpensU
import Derived.Test.YtaeikiigdfgmaaaDoorPrx4
namespace Go.Proofs.YtaeikiigdfgmaaaDoor.Pure
set_option linter.unusedVariables false
set_option linter.unusedSimpArgs false
open Go.RowKit Go.Proofs.YtaeikiigdfgmaaaDoor Go.Proofs.YtaeikiigdfgmaaaDoor.Pr Go.Proofs.YtaeikiigdfgmaaaDoorW.PrintWords Go.Proofs.YtaeikiigdfgmaaaDoorW.PrintLast Go.Proofs.YtaeikiigdfgmaaaDoorW.PrintMore

theorem CharsDecodes (a0 : ByteArray) (w0 : a0.size ≤ 140737488351232) (hU : wS a0 + 0 ≤ 1048576) : ∃ k, boltinglaw01_CharsDecodes.f k a0 = some true := by
  have hs : a0.size + 1 + 0 ≤ 1048576 := hU
  refine ⟨2000000, ?_⟩
  unfold boltinglaw01_CharsDecodes.f
  rw [rsample_f a0 (by omega) 0 (by omega) (by omega), fixed_f, decode_f a0 (by omega), rdecode_f a0 (by omega) (by omega), right_f a0 (by omega), rright_f a0 (by omega) (by omega), count_f a0 (by omega)]
  simp
end Go.Proofs.YtaeikiigdfgmaaaDoor.Pure
