/- Plain laws of addresses (chapter 19). -/
import Derived.Test.YtakhldahohooiaaGivenRun
import Derived.Test.YtakhldahohooiaaWWords
import Derived.Test.YtakhldahohooiaaWLast
import Derived.Test.YtakhldahohooiaaWMore
namespace Go.Proofs.Ytakhldahohooiaa.Pure
set_option linter.unusedVariables false
set_option linter.unusedSimpArgs false
open Go.RowKit Go.Proofs.YtakhldahohooiaaW.PrintWords Go.Proofs.YtakhldahohooiaaW.PrintLast Go.Proofs.YtakhldahohooiaaW.PrintMore

theorem wrap_succ {i : Int} (h0 : -1 ≤ i) (h : i < 9000000000000000000) : wrap64 (i + 1) = i + 1 := by unfold wrap64; omega
theorem wrap_id {i : Int} (h0 : -9000000000000000000 ≤ i) (h : i < 9000000000000000000) : wrap64 i = i := by unfold wrap64; omega
def toI (l : List UInt8) : List Int := l.map fun c => (c.toNat : Int)
theorem mkS_data (s : ByteArray) : mkS s.data.toList = s := Lib.mk_data s
def F (l : List UInt8) : Int := if lead ws l = l.length then -1 else (lead ws l : Int)
def T (l : List UInt8) : Int := (tail ws l : Int) - 1
/-! ### a scheme is told by what stands ahead of the first colon -/
def pre (l : List UInt8) : List UInt8 := (bef 58 (l.dropWhile ws)).filter keep
end Go.Proofs.Ytakhldahohooiaa.Pure
