/- risk's contracts in the form that the printed texts take (chapter 19). -/
import Derived.Test.YtakhldahohooiaaGivenLink
import Derived.Test.YtakhldahohooiaaRiskNav
namespace Go.Proofs.Ytakhldahohooiaa
set_option linter.unusedVariables false
set_option linter.unusedSimpArgs false
open Go.RowKit Go.Lib

def risk_Nav.f (a0 a1 : ByteArray) : Option Bool := some (navB a0 a1)
theorem risk_Nav.calls (a0 a1 : ByteArray) (r : Bool) (w : World) (h : risk_Nav.f a0 a1 = some r) :
    Calls Try.prog 31 #[.string a0, .string a1] w fun e w' => e = .returned (.bool r) ∧ Below w.heap.size w w' := by
  obtain rfl := Option.some.inj h
  exact nav_calls a0 a1 w
def risk_Sink.f (a0 a1 : ByteArray) : Option Int := some (if handlerB a1 = true then 2 else sinkI a0 a1)
theorem risk_Sink.calls (a0 a1 : ByteArray) (r : Int) (w : World) (h : risk_Sink.f a0 a1 = some r) :
    Calls Try.prog 49 #[.string a0, .string a1] w fun e w' => e = .returned (.int .i64 r) ∧ Below w.heap.size w w' := by
  obtain rfl := Option.some.inj h
  exact sink_calls a0 a1 w
end Go.Proofs.Ytakhldahohooiaa
