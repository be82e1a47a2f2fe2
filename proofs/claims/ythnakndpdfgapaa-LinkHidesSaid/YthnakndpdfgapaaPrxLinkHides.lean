/- LinkHides' law in the form that the row asks for. -/
import Derived.Test.YthnakndpdfgapaaPrxHides
namespace Go.Proofs.Ythnakndpdfgapaa.Pr
set_option linter.unusedVariables false
open Go.RowKit Go.Lib Go.Proofs.Ythnakndpdfgapaa Go.Proofs.YthnakndpdfgapaaW.PrintWords
def boltinglaw09_LinkHides.f (a0 : ByteArray) (l1 : List Int) (a2 : Bool) : Option Bool := bnd a0 true
theorem boltinglaw09_LinkHides.calls (a0 : ByteArray) (A1 : Option Addr) (c1 : Nat) (l1 : List Int) (a2 : Bool) (r : Bool) (w : World) (hr1 : Kd.C (Kd.int .i64) w A1 l1.length l1) (hc1 : l1.length ≤ c1) (h : boltinglaw09_LinkHides.f a0 l1 a2 = some r) :
    Calls Try.prog 5 #[.string a0, .slice A1 l1.length c1, .bool a2] w fun e w' => e = .returned (.bool r) ∧ Below w.heap.size w w' := by
  obtain ⟨hs, rfl⟩ := bnd_some h
  exact Pure.hides_law a0 a2 hs hr1 hc1
end Go.Proofs.Ythnakndpdfgapaa.Pr
