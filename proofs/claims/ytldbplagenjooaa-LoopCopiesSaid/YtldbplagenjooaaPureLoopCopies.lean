/- LoopCopies of the document's chapter 18: it answers true whatever the input. -/
import Derived.Test.YtldbplagenjooaaPrxCopies
namespace Go.Proofs.Ytldbplagenjooaa
set_option linter.unusedVariables false
open Go.Proofs.Ytldbplagenjooaa.Pr
theorem Pure.LoopCopies (l : List Int) (a : ByteArray) {P R : Prop} (hs : P) (hl : l.length ≤ 9223372036854775807) (ha : R) : ∃ k : Nat, boltinglaw18_LoopCopies.f l a = some true := ⟨0, rfl⟩
end Go.Proofs.Ytldbplagenjooaa
