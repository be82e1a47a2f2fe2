/- CharsLines: any bytes with one end of lines, and made ready. Plain Lean. -/
import Derived.Test.YtaeikiigdfgmaaaDoorCharsRef
import Derived.Test.YtaeikiigdfgmaaaDoorOpensU
import Derived.Test.YtaeikiigdfgmaaaDoorPrx6
namespace Go.Proofs.YtaeikiigdfgmaaaDoor.Pure
set_option linter.unusedVariables false
set_option linter.unusedSimpArgs false
open Go.RowKit Go.Proofs.YtaeikiigdfgmaaaDoor Go.Proofs.YtaeikiigdfgmaaaDoor.Pr Go.Proofs.YtaeikiigdfgmaaaDoorW.PrintWords Go.Proofs.YtaeikiigdfgmaaaDoorW.PrintLast Go.Proofs.YtaeikiigdfgmaaaDoorW.PrintMore

theorem CharsLines (a0 : ByteArray) (w0 : a0.size ≤ 140737488351232) (hU : wS a0 + 0 ≤ 1048576) : ∃ k, boltinglaw01_CharsLines.f k a0 = some true := by
  have hs : a0.size + 1 + 0 ≤ 1048576 := hU
  have h2 := decode_size a0
  refine ⟨4000000, ?_⟩
  unfold boltinglaw01_CharsLines.f boltingref01_Ready.f
  rw [fixed_f, lines_f a0 (by omega), rlines_f a0 (by omega) (by omega), ready_f a0 (by omega), rdecode_f a0 (by omega) (by omega)]
  simp only [Option.bind_some]
  rw [rlines_f _ (by omega) (by omega)]
  simp [Chars.ready, dat_mk]
end Go.Proofs.YtaeikiigdfgmaaaDoor.Pure
