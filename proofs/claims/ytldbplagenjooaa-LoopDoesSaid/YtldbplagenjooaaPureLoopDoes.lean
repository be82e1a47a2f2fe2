/- LoopDoes of the document's chapter 18: it answers true whatever the input. -/
import Derived.Test.YtldbplagenjooaaPrxDoes
namespace Go.Proofs.Ytldbplagenjooaa
set_option linter.unusedVariables false
open Go.Proofs.Ytldbplagenjooaa.Pr
theorem Pure.LoopDoes (l : List S45) {P : Prop} (hs : P) (hl : l.length ≤ 9223372036854775807) : ∃ k : Nat, boltinglaw18_LoopDoes.f l = some true := ⟨0, rfl⟩
end Go.Proofs.Ytldbplagenjooaa
