/- RiskNames of the document's chapter 10: it answers true whatever the input. -/
import Derived.Test.YtejdfmghcgkojaaRiskFixed
import Derived.Test.YtejdfmghcgkojaaPrx4
namespace Go.Proofs.Ytejdfmghcgkojaa.Pure
set_option linter.unusedVariables false
set_option linter.unusedSimpArgs false
open Go.RowKit Go.Proofs.Ytejdfmghcgkojaa.Pr Go.Proofs.YtejdfmghcgkojaaW.PrintWords Go.Proofs.YtejdfmghcgkojaaW.PrintLast
theorem RiskNames : boltinglaw10_RiskNames.Pure := by
  intro a0 a1 h0 h1
  refine ⟨a0.size + 200, ?_⟩
  unfold boltinglaw10_RiskNames.f
  rw [fixed_f (by omega)]
  simp only [Option.bind_some, if_true]
  rw [handler_f a1 (by omega), rhandler_f a1]
  simp only [Option.bind_some, beq_self_eq_true, if_true]
  rw [rnav_f a0 a1 (by omega) (by omega) (by omega), show risk_Nav.f a0 a1 = some (navB a0 a1) from rfl]
  simp only [Option.bind_some, beq_self_eq_true, if_true]
  rw [rsink_f a0 a1 (by omega) (by omega) (by omega), show risk_Sink.f a0 a1 = some (sinkF a0 a1) from rfl]
  simp only [Option.bind_some, if_true]
  rw [element_f, show boltingref10_Unsafe.f = some unsafeL from rfl]
  simp only [Option.bind_some]
  rw [has_f unsafeL a0 (by decide) (by show 8 < _; omega)]
  simp only [Option.bind_some, beq_self_eq_true]
end Go.Proofs.Ytejdfmghcgkojaa.Pure
