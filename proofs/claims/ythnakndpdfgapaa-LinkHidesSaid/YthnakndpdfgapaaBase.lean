/- Small lemmas for the walks. -/
import Derived.Test.YthnakndpdfgapaaProg
import Derived.Test.YthnakndpdfgapaaBytes
import Derived.WalkKit
import Derived.BigCall
import Derived.Deep.DeepCutAuto
import Derived.Deep.CutBlock
import Derived.Shelf.GgClosure.Gives
import Derived.Lib.CutLaws
import Derived.Lib.IndexLaws
namespace Go.Proofs.Ythnakndpdfgapaa
set_option linter.unusedVariables false
set_option linter.unusedSimpArgs false
open Go.RowKit

theorem hid {p : Prop} (h : p) : Hid p := h
theorem byte_at (s : ByteArray) (k : Nat) (h : k < s.size) : s.data.toList[k]? = some (s[k]'h) := by
  rw [List.getElem?_eq_getElem (by simpa using h)]; rfl
theorem byte_drop (s : ByteArray) (a j : Nat) (h : a + j < s.size) : (s.data.toList.drop a)[j]? = some (s[a + j]'h) := by
  rw [List.getElem?_drop]; exact byte_at s (a + j) h
theorem ret_int {k : IntKind} {a b : Int} (h : a = b) : Ending.returned (.int k a) = .returned (.int k b) := by rw [h]
theorem ret_str {a b : List UInt8} (h : a = b) : Ending.returned (.string ⟨a.toArray⟩) = .returned (.string ⟨b.toArray⟩) := by rw [h]
theorem ret_bool {a b : Bool} (h : a = b) : Ending.returned (.bool a) = .returned (.bool b) := by rw [h]
theorem extract_pre (s : ByteArray) (i : Nat) : s.extract 0 i = ⟨(s.data.toList.take i).toArray⟩ := by rw [Lib.extract_eq]; simp
theorem extract_suf (s : ByteArray) (i : Nat) : s.extract i s.size = ⟨(s.data.toList.drop i).toArray⟩ := by
  rw [Lib.extract_eq]
  congr 2
  exact List.take_of_length_le (by rw [List.length_drop, ← Lib.size_eq]; exact Nat.le_refl _)
theorem drop_one {l : List UInt8} {i : Nat} {c : UInt8} (h0 : l[i]? = some c) : l.drop i = c :: l.drop (i + 1) := by
  rw [List.drop_eq_getElem?_toList_append, h0]
  simp
theorem drop_three {l : List UInt8} {i : Nat} {c x y : UInt8} (h0 : l[i]? = some c) (h1 : l[i + 1]? = some x) (h2 : l[i + 2]? = some y) : l.drop i = c :: x :: y :: l.drop (i + 3) := by
  rw [List.drop_eq_getElem?_toList_append, h0, List.drop_eq_getElem?_toList_append, h1, List.drop_eq_getElem?_toList_append, h2]
  simp
def bnd {α : Type} (s : ByteArray) (x : α) : Option α := if s.size ≤ 140737488351232 then some x else none
theorem bnd_some {α : Type} {s : ByteArray} {x r : α} (h : bnd s x = some r) : s.size ≤ 140737488351232 ∧ x = r := by
  unfold bnd at h
  split at h
  · exact ⟨by assumption, Option.some.inj h⟩
  · cases h
theorem bnd_of {α : Type} {s : ByteArray} (x : α) (h : s.size ≤ 140737488351232) : bnd s x = some x := by unfold bnd; rw [if_pos h]
def mkS (l : List UInt8) : ByteArray := ⟨l.toArray⟩
end Go.Proofs.Ythnakndpdfgapaa
