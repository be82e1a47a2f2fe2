/- risk's, link's and Lower's contracts in the form that the printed texts take. -/
import Derived.Test.YtejdfmghcgkojaaScheme2
import Derived.Test.YtejdfmghcgkojaaRiskNav
namespace Go.Proofs.Ytejdfmghcgkojaa
set_option linter.unusedVariables false
set_option linter.unusedSimpArgs false
open Go.RowKit Go.Lib

def link_Scheme.f (a0 : ByteArray) : Option (ByteArray × Bool) := bnd a0 (mkS ((scheme a0.data.toList).getD []), (scheme a0.data.toList).isSome)
theorem link_Scheme.calls (a0 : ByteArray) (r1 : ByteArray) (r2 : Bool) (w : World) (h : link_Scheme.f a0 = some (r1, r2)) :
    Calls Try.prog 33 #[.string a0] w fun e w' => e = .returned (.tuple #[.string r1, .bool r2]) ∧ Below w.heap.size w w' := by
  obtain ⟨hs, he⟩ := bnd_some h
  injection he with h1 h2
  subst h1 h2
  exact scheme_calls a0 w hs
def boltingref02_Lower.f (a0 : ByteArray) : Option ByteArray := bnd a0 (mkS (lower a0.data.toList))
theorem boltingref02_Lower.calls (a0 : ByteArray) (r : ByteArray) (w : World) (h : boltingref02_Lower.f a0 = some r) :
    Calls Try.prog 36 #[.string a0] w fun e w' => e = .returned (.string r) ∧ Below w.heap.size w w' := by
  obtain ⟨hs, rfl⟩ := bnd_some h
  exact ref_lower_calls a0 w hs
def risk_Nav.f (a0 a1 : ByteArray) : Option Bool := some (navB a0 a1)
theorem risk_Nav.calls (a0 a1 : ByteArray) (r : Bool) (w : World) (h : risk_Nav.f a0 a1 = some r) :
    Calls Try.prog 12 #[.string a0, .string a1] w fun e w' => e = .returned (.bool r) ∧ Below w.heap.size w w' := by
  obtain rfl := Option.some.inj h
  exact nav_calls a0 a1 w
def risk_Sink.f (a0 a1 : ByteArray) : Option Int := some (if handlerB a1 = true then 2 else sinkI a0 a1)
theorem risk_Sink.calls (a0 a1 : ByteArray) (r : Int) (w : World) (h : risk_Sink.f a0 a1 = some r) :
    Calls Try.prog 14 #[.string a0, .string a1] w fun e w' => e = .returned (.int .i64 r) ∧ Below w.heap.size w w' := by
  obtain rfl := Option.some.inj h
  exact sink_calls a0 a1 w
end Go.Proofs.Ytejdfmghcgkojaa
