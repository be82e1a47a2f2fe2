/- LoopSmall of the document's chapter 18: it answers true whatever the input. -/
import Derived.Test.YtldbplagenjooaaPrxSmall
namespace Go.Proofs.Ytldbplagenjooaa
set_option linter.unusedVariables false
open Go.Proofs.Ytldbplagenjooaa.Pr
theorem Pure.LoopSmall (l : List ByteArray) (a : Int) (hs : ∀ x ∈ l, x.size ≤ 140737488351232) (hl : l.length ≤ 9223372036854775807) (ha : (Lit.int .i64 a).wf = true) : ∃ k : Nat, boltinglaw18_LoopSmall.f l a = some true := ⟨0, rfl⟩
end Go.Proofs.Ytldbplagenjooaa
