/- fold's and strings' contracts in the form that the printed texts take. -/
import Derived.Test.YthblohknnlkidaaDoorWords
import Derived.Test.YthblohknnlkidaaDoorSplit
namespace Go.Proofs.YthblohknnlkidaaDoor
set_option linter.unusedVariables false
set_option linter.unusedSimpArgs false
open Go.RowKit Go.Lib Go.Proofs.YthblohknnlkidaaDoorW.PrintWords

def fold_Lower.f (a0 : ByteArray) : Option ByteArray := bnd a0 (mkS (lower a0.data.toList))
theorem fold_Lower.calls (a0 : ByteArray) (r : ByteArray) (w : World) (h : fold_Lower.f a0 = some r) :
    Calls Tryd.prog 26 #[.string a0] w fun e w' => e = .returned (.string r) ∧ Below w.heap.size w w' := by
  obtain ⟨hs, rfl⟩ := bnd_some h
  exact lower_calls a0 w hs
def boltingref02_Lower.f (a0 : ByteArray) : Option ByteArray := bnd a0 (mkS (lower a0.data.toList))
theorem boltingref02_Lower.calls (a0 : ByteArray) (r : ByteArray) (w : World) (h : boltingref02_Lower.f a0 = some r) :
    Calls Tryd.prog 19 #[.string a0] w fun e w' => e = .returned (.string r) ∧ Below w.heap.size w w' := by
  obtain ⟨hs, rfl⟩ := bnd_some h
  exact ref_lower_calls a0 w hs
def bnd32 {α : Type} (s : ByteArray) (x : α) : Option α := if s.size < 4294967281 then some x else none
theorem bnd32_some {α : Type} {s : ByteArray} {x r : α} (h : bnd32 s x = some r) : s.size < 4294967281 ∧ x = r := by
  unfold bnd32 at h
  split at h
  · exact ⟨by assumption, Option.some.inj h⟩
  · cases h
theorem bnd32_of {α : Type} {s : ByteArray} (x : α) (h : s.size < 4294967281) : bnd32 s x = some x := by unfold bnd32; rw [if_pos h]
def fold_Words.f (a0 : ByteArray) : Option (List ByteArray) := bnd32 a0 ((words a0.data.toList).map mkS)
theorem fold_Words.calls (a0 : ByteArray) (r : List ByteArray) (w : World) (h : fold_Words.f a0 = some r) :
    Calls Tryd.prog 25 #[.string a0] w fun e w' => ∃ v0_ : Value, e = .returned (v0_) ∧ Kd.R Kd.string 9 w' w.heap.size (fun _ => True) v0_ r ∧ Below w.heap.size w w' := by
  obtain ⟨hs, rfl⟩ := bnd32_some h
  refine (words_calls a0 w (by omega)).mono ?_
  rintro e w' ⟨v, he, ho, hb⟩
  exact ⟨v, he, Kd.R_of_own (enc := Value.string) ho (fun _ _ => trivial), hb⟩
/-- strings.Split, at a separator of one byte alone. -/
def strings_Split.f (a0 a1 : ByteArray) : Option (List ByteArray) := match a1.data.toList with
  | [c] => bnd32 a0 ((cutAt c a0.data.toList).map mkS)
  | _ => none
theorem one_byte {a : ByteArray} {c : UInt8} (h : a.data.toList = [c]) : a = ⟨#[c]⟩ := by rw [← Lib.mk_data a, h]
theorem strings_Split.calls (a0 a1 : ByteArray) (r : List ByteArray) (w : World) (h : strings_Split.f a0 a1 = some r) :
    Calls Tryd.prog 24 #[.string a0, .string a1] w fun e w' => ∃ v0_ : Value, e = .returned (v0_) ∧ Kd.R Kd.string 9 w' w.heap.size (fun _ => True) v0_ r ∧ Below w.heap.size w w' := by
  unfold strings_Split.f at h
  split at h
  · rename_i c hc
    obtain ⟨hs, rfl⟩ := bnd32_some h
    rw [one_byte hc]
    refine (split_calls c a0 w (by omega)).mono ?_
    rintro e w' ⟨v, he, ho, hb⟩
    exact ⟨v, he, Kd.R_of_own (enc := Value.string) ho (fun _ _ => trivial), hb⟩
  · cases h
/-- strings.Contains, at a text of one byte alone. -/
def strings_Contains.f (a0 a1 : ByteArray) : Option Bool := match a1.data.toList with
  | [c] => some (decide (0 ≤ Lib.indexByte a0.data.toList c))
  | _ => none
theorem strings_Contains.calls (a0 a1 : ByteArray) (r : Bool) (w : World) (h : strings_Contains.f a0 a1 = some r) :
    Calls Tryd.prog 38 #[.string a0, .string a1] w fun e w' => e = .returned (.bool r) ∧ Drawn0 w w' := by
  unfold strings_Contains.f at h
  split at h
  · rename_i c hc
    obtain rfl := Option.some.inj h
    rw [one_byte hc]
    refine (Tryd.strings_Contains_one a0 c w).mono ?_
    rintro e w' ⟨rfl, rfl⟩
    exact ⟨rfl, Drawn0.refl _⟩
  · cases h
end Go.Proofs.YthblohknnlkidaaDoor
