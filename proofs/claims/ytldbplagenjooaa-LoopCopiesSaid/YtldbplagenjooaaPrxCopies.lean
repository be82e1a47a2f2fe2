/- LoopCopies' law in the form that the row asks for. -/
import Derived.Test.YtldbplagenjooaaLoopCopies
namespace Go.Proofs.Ytldbplagenjooaa.Pr
set_option linter.unusedVariables false
open Go.RowKit Go.Lib Go.Shelf Go.Proofs.Ytldbplagenjooaa Go.Proofs.YtldbplagenjooaaW.PrintWords
def boltinglaw18_LoopCopies.f (l0 : List Int) (a1 : ByteArray) : Option Bool := some true
theorem boltinglaw18_LoopCopies.calls (A0 : Option Addr) (c0 : Nat) (l0 : List Int) (a1 : ByteArray) (r : Bool) (w : World) (hr0 : Kd.C (Kd.int .i64) w A0 l0.length l0) (hc0 : l0.length ≤ c0) (h : boltinglaw18_LoopCopies.f l0 a1 = some r) :
    Calls Try.prog 4 #[.slice A0 l0.length c0, .string a1] w fun e w' => e = .returned (.bool r) ∧ Below w.heap.size w w' := by
  cases h
  exact copies_law a1 (Kd.reads_of_C (d := 0) hr0) hc0
end Go.Proofs.Ytldbplagenjooaa.Pr
