/- LoopSmall's law in the form that the row asks for. -/
import Derived.Test.YtldbplagenjooaaLoopSmall
namespace Go.Proofs.Ytldbplagenjooaa.Pr
set_option linter.unusedVariables false
open Go.RowKit Go.Lib Go.Shelf Go.Proofs.Ytldbplagenjooaa Go.Proofs.YtldbplagenjooaaW.PrintWords
def boltinglaw18_LoopSmall.f (l0 : List ByteArray) (a1 : Int) : Option Bool := some true
theorem boltinglaw18_LoopSmall.calls (A0 : Option Addr) (c0 : Nat) (l0 : List ByteArray) (a1 : Int) (r : Bool) (w : World) (hr0 : Kd.C Kd.string w A0 l0.length l0) (hc0 : l0.length ≤ c0) (h : boltinglaw18_LoopSmall.f l0 a1 = some r) :
    Calls Try.prog 3 #[.slice A0 l0.length c0, .int .i64 a1] w fun e w' => e = .returned (.bool r) ∧ Below w.heap.size w w' := by
  cases h
  exact small_law a1 (Kd.reads_of_C (d := ByteArray.empty) hr0) hc0
end Go.Proofs.Ytldbplagenjooaa.Pr
