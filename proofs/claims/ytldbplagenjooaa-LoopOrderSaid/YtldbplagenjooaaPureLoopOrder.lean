/- LoopOrder of the document's chapter 18: it answers true whatever the input. -/
import Derived.Test.YtldbplagenjooaaPrxOrder
namespace Go.Proofs.Ytldbplagenjooaa
set_option linter.unusedVariables false
open Go.Proofs.Ytldbplagenjooaa.Pr
theorem Pure.LoopOrder (l m : List Int) {P R : Prop} (hs : P) (hl : l.length ≤ 9223372036854775807) (hs2 : R) (hm : m.length ≤ 9223372036854775807) : ∃ k : Nat, boltinglaw18_LoopOrder.f l m = some true := ⟨0, rfl⟩
end Go.Proofs.Ytldbplagenjooaa
