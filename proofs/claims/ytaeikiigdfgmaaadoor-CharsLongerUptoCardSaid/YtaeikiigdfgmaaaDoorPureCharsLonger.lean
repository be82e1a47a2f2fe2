/- CharsLonger: a text has no fewer characters than a fourth of its bytes, and no more than these; decoded it has as many. Plain Lean. -/
import Derived.Test.YtaeikiigdfgmaaaDoorCharsRef
import Derived.Test.YtaeikiigdfgmaaaDoorOpensU
import Derived.Test.YtaeikiigdfgmaaaDoorPrx12
namespace Go.Proofs.YtaeikiigdfgmaaaDoor.Pure
set_option linter.unusedVariables false
set_option linter.unusedSimpArgs false
open Go.RowKit Go.Proofs.YtaeikiigdfgmaaaDoor Go.Proofs.YtaeikiigdfgmaaaDoor.Pr Go.Proofs.YtaeikiigdfgmaaaDoorW.PrintWords Go.Proofs.YtaeikiigdfgmaaaDoorW.PrintLast Go.Proofs.YtaeikiigdfgmaaaDoorW.PrintMore

theorem CharsLonger (a0 : ByteArray) (w0 : a0.size ≤ 140737488351232) (hU : wS a0 + 0 ≤ 1048576) : ∃ k : Nat, boltinglaw01_CharsLonger.f a0 = some true := by
  have hs : a0.size + 1 + 0 ≤ 1048576 := hU
  have h2 := decode_size a0
  have h4 := lines_size a0
  obtain ⟨c1, c2⟩ := Chars.count_le (dat a0)
  rw [dat_len] at c1 c2
  refine ⟨0, ?_⟩
  unfold boltinglaw01_CharsLonger.f
  rw [count_f a0 (by omega), Option.bind_some, if_pos (by omega), wrap_id (by omega) (by omega), if_pos (by omega), decode_f a0 (by omega), Option.bind_some, count_f _ (by omega), Option.bind_some, dat_mk, Chars.count_decode, if_pos rfl, Option.bind_some, wrap_id (by omega) (by omega), if_pos (by omega), lines_f a0 (by omega), Option.bind_some, if_pos (by omega), fixed_f]
  rfl
end Go.Proofs.YtaeikiigdfgmaaaDoor.Pure
