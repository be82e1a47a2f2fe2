/- Bytes that do not count, put in anywhere, and other letters make no difference to an address's scheme; no condition. -/
import Derived.Test.YthnakndpdfgapaaPrxLinkHides
namespace Go.Proofs.Ythnakndpdfgapaa
set_option linter.unusedVariables false
open Go.Proofs.Ythnakndpdfgapaa.Pr
theorem Pure.LinkHides (a0 : ByteArray) (l : List Int) (a2 : Bool) (h0 : a0.size ≤ 140737488351232) {P : Prop} (hs : P) (hl : l.length ≤ 9223372036854775807) : ∃ k : Nat, boltinglaw09_LinkHides.f a0 l a2 = some true := ⟨0, bnd_of _ (by omega)⟩
end Go.Proofs.Ythnakndpdfgapaa
