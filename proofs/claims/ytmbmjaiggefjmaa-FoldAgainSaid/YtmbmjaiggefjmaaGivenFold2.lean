/- fold's contracts in the form that the printed texts take. -/
import Derived.Test.YtmbmjaiggefjmaaWords
import Derived.Test.YtmbmjaiggefjmaaFind
import Derived.Test.YtmbmjaiggefjmaaSorted
namespace Go.Proofs.Ytmbmjaiggefjmaa
set_option linter.unusedVariables false
set_option linter.unusedSimpArgs false
open Go.RowKit Go.Lib Go.Proofs.YtmbmjaiggefjmaaW.PrintWords

def fold_Lower.f (a0 : ByteArray) : Option ByteArray := bnd a0 (mkS (lower a0.data.toList))
theorem fold_Lower.calls (a0 : ByteArray) (r : ByteArray) (w : World) (h : fold_Lower.f a0 = some r) :
    Calls Try.prog 11 #[.string a0] w fun e w' => e = .returned (.string r) ∧ Below w.heap.size w w' := by
  obtain ⟨hs, rfl⟩ := bnd_some h
  exact lower_calls a0 w hs
def boltingref02_Lower.f (a0 : ByteArray) : Option ByteArray := bnd a0 (mkS (lower a0.data.toList))
theorem boltingref02_Lower.calls (a0 : ByteArray) (r : ByteArray) (w : World) (h : boltingref02_Lower.f a0 = some r) :
    Calls Try.prog 12 #[.string a0] w fun e w' => e = .returned (.string r) ∧ Below w.heap.size w w' := by
  obtain ⟨hs, rfl⟩ := bnd_some h
  exact ref_lower_calls a0 w hs
def bnd32 {α : Type} (s : ByteArray) (x : α) : Option α := if s.size < 4294967281 then some x else none
theorem bnd32_some {α : Type} {s : ByteArray} {x r : α} (h : bnd32 s x = some r) : s.size < 4294967281 ∧ x = r := by
  unfold bnd32 at h
  split at h
  · exact ⟨by assumption, Option.some.inj h⟩
  · cases h
theorem bnd32_of {α : Type} {s : ByteArray} (x : α) (h : s.size < 4294967281) : bnd32 s x = some x := by unfold bnd32; rw [if_pos h]
def fold_Words.f (a0 : ByteArray) : Option (List ByteArray) := bnd32 a0 ((words a0.data.toList).map mkS)
theorem fold_Words.calls (a0 : ByteArray) (r : List ByteArray) (w : World) (h : fold_Words.f a0 = some r) :
    Calls Try.prog 18 #[.string a0] w fun e w' => ∃ v0_ : Value, e = .returned (v0_) ∧ Kd.R Kd.string 9 w' w.heap.size (fun _ => True) v0_ r ∧ Below w.heap.size w w' := by
  obtain ⟨hs, rfl⟩ := bnd32_some h
  refine (words_calls a0 w (by omega)).mono ?_
  rintro e w' ⟨v, he, ho, hb⟩
  exact ⟨v, he, Kd.R_of_own (enc := Value.string) ho (fun _ _ => trivial), hb⟩
end Go.Proofs.Ytmbmjaiggefjmaa
