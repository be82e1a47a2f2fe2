/- LoopOrder' law in the form that the row asks for. -/
import Derived.Test.YtldbplagenjooaaLoopOrder
namespace Go.Proofs.Ytldbplagenjooaa.Pr
set_option linter.unusedVariables false
open Go.RowKit Go.Lib Go.Shelf Go.Proofs.Ytldbplagenjooaa Go.Proofs.YtldbplagenjooaaW.PrintWords
def boltinglaw18_LoopOrder.f (l0 l1 : List Int) : Option Bool := some true
theorem boltinglaw18_LoopOrder.calls (A0 : Option Addr) (c0 : Nat) (l0 : List Int) (A1 : Option Addr) (c1 : Nat) (l1 : List Int) (r : Bool) (w : World) (hr0 : Kd.C (Kd.int .i64) w A0 l0.length l0) (hc0 : l0.length ≤ c0) (hr1 : Kd.C (Kd.int .i64) w A1 l1.length l1) (hc1 : l1.length ≤ c1) (h : boltinglaw18_LoopOrder.f l0 l1 = some r) :
    Calls Try.prog 6 #[.slice A0 l0.length c0, .slice A1 l1.length c1] w fun e w' => e = .returned (.bool r) ∧ Below w.heap.size w w' := by
  cases h
  exact order_law (Kd.reads_of_C (d := 0) hr0) hc0 (Kd.reads_of_C (d := 0) hr1) hc1
end Go.Proofs.Ytldbplagenjooaa.Pr
