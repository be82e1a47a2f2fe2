/- link's and Lower's contracts in the form that the printed texts take. -/
import Derived.Test.YthnakndpdfgapaaSource
namespace Go.Proofs.Ythnakndpdfgapaa
set_option linter.unusedVariables false
set_option linter.unusedSimpArgs false
open Go.RowKit Go.Lib

def link_Strip.f (a0 : ByteArray) : Option ByteArray := bnd a0 (mkS (strip a0.data.toList))
theorem link_Strip.calls (a0 : ByteArray) (r : ByteArray) (w : World) (h : link_Strip.f a0 = some r) :
    Calls Try.prog 14 #[.string a0] w fun e w' => e = .returned (.string r) ∧ Below w.heap.size w w' := by
  obtain ⟨hs, rfl⟩ := bnd_some h
  exact strip_calls a0 w hs
def link_Percent.f (a0 : ByteArray) : Option ByteArray := bnd a0 (mkS (percent a0.data.toList))
theorem link_Percent.calls (a0 : ByteArray) (r : ByteArray) (w : World) (h : link_Percent.f a0 = some r) :
    Calls Try.prog 19 #[.string a0] w fun e w' => e = .returned (.string r) ∧ Below w.heap.size w w' := by
  obtain ⟨hs, rfl⟩ := bnd_some h
  exact percent_calls a0 w hs
def link_Scheme.f (a0 : ByteArray) : Option (ByteArray × Bool) := bnd a0 (mkS ((scheme a0.data.toList).getD []), (scheme a0.data.toList).isSome)
theorem link_Scheme.calls (a0 : ByteArray) (r1 : ByteArray) (r2 : Bool) (w : World) (h : link_Scheme.f a0 = some (r1, r2)) :
    Calls Try.prog 11 #[.string a0] w fun e w' => e = .returned (.tuple #[.string r1, .bool r2]) ∧ Below w.heap.size w w' := by
  obtain ⟨hs, he⟩ := bnd_some h
  injection he with h1 h2
  subst h1 h2
  exact scheme_calls a0 w hs
def link_Script.f (a0 : ByteArray) : Option Bool := bnd a0 (script a0.data.toList)
theorem link_Script.calls (a0 : ByteArray) (r : Bool) (w : World) (h : link_Script.f a0 = some r) :
    Calls Try.prog 18 #[.string a0] w fun e w' => e = .returned (.bool r) ∧ Below w.heap.size w w' := by
  obtain ⟨hs, rfl⟩ := bnd_some h
  exact script_calls a0 w hs
def link_Source.f (a0 : ByteArray) : Option (ByteArray × Bool) := bnd a0 (mkS ((source a0.data.toList).getD []), (source a0.data.toList).isSome)
theorem link_Source.calls (a0 : ByteArray) (r1 : ByteArray) (r2 : Bool) (w : World) (h : link_Source.f a0 = some (r1, r2)) :
    Calls Try.prog 16 #[.string a0] w fun e w' => e = .returned (.tuple #[.string r1, .bool r2]) ∧ Below w.heap.size w w' := by
  obtain ⟨hs, he⟩ := bnd_some h
  injection he with h1 h2
  subst h1 h2
  exact source_calls a0 w hs
def boltingref02_Lower.f (a0 : ByteArray) : Option ByteArray := bnd a0 (mkS (lower a0.data.toList))
theorem boltingref02_Lower.calls (a0 : ByteArray) (r : ByteArray) (w : World) (h : boltingref02_Lower.f a0 = some r) :
    Calls Try.prog 27 #[.string a0] w fun e w' => e = .returned (.string r) ∧ Below w.heap.size w w' := by
  obtain ⟨hs, rfl⟩ := bnd_some h
  exact ref_lower_calls a0 w hs
end Go.Proofs.Ythnakndpdfgapaa
