/- The fixed calls of chapter 10, Attr, Safe: plain Lean. -/
import Derived.Test.YtejdfmghcgkojaaRiskRef
import Derived.Test.YtejdfmghcgkojaaPrx2
namespace Go.Proofs.Ytejdfmghcgkojaa.Pure
set_option linter.unusedVariables false
set_option linter.unusedSimpArgs false
open Go.RowKit Go.Proofs.Ytejdfmghcgkojaa.Pr Go.Proofs.YtejdfmghcgkojaaW.PrintWords Go.Proofs.YtejdfmghcgkojaaW.PrintLast

/-- Is an address one to be run? -/
def runs (l : List UInt8) : Bool := (scheme l).getD [] == [106, 97, 118, 97, 115, 99, 114, 105, 112, 116]
theorem script_f (s : ByteArray) (hs : s.size ≤ 140737488351232) : link_Script.f s = some (runs (dat s)) := by
  unfold link_Script.f link_Scheme.f
  rw [bnd_of _ hs]
  simp only [Option.bind_some]
  rw [mkS_toList]
  rfl
/-- Is an attribute not safe? -/
def attrB (e n v : ByteArray) : Bool := decide (sinkF e n ≠ 0) || (navB e n && runs (dat v))
theorem attr_f (e n v : ByteArray) (hv : v.size ≤ 140737488351232) : risk_Attr.f e n v = some (attrB e n v) := by
  unfold risk_Attr.f risk_Sink.f risk_Nav.f attrB
  simp only [Option.bind_some]
  show (if sinkF e n = 0 then _ else _) = _
  by_cases h : sinkF e n = 0
  · rw [if_pos h, h]
    cases hb : navB e n with
    | true => rw [if_pos rfl, script_f v hv]; simp
    | false => rw [if_neg (by simp)]; simp
  · rw [if_neg h]; simp [h]
set_option maxRecDepth 100000 in
theorem fixed_f {k : Nat} (hk : 10 ≤ k) : boltinglaw10_fixed.f k = some true := by
  obtain ⟨k, rfl⟩ : ∃ m, k = m + 4 := ⟨k - 4, by omega⟩
  have e1 : risk_Attr.f ⟨#[97]⟩ ⟨#[104, 114, 101, 102]⟩ ⟨#[106, 97, 118, 97, 115, 99, 114, 105, 112, 116, 58, 120]⟩ = some true := by decide +kernel
  have e2 : risk_Attr.f ⟨#[97]⟩ ⟨#[104, 114, 101, 102]⟩ ⟨#[104, 116, 116, 112, 115, 58, 120]⟩ = some false := by decide +kernel
  have e3 : risk_Sink.f ⟨#[100, 105, 118]⟩ ⟨#[111, 110, 99, 108, 105, 99, 107]⟩ = some 2 := by decide +kernel
  have e4 : risk_Handler.f ⟨#[111, 110]⟩ = some false := by decide +kernel
  have e5 : risk_Nav.f ⟨#[102, 111, 114, 109]⟩ ⟨#[97, 99, 116, 105, 111, 110]⟩ = some true := by decide +kernel
  have e6 : risk_Nav.f ⟨#[100, 105, 118]⟩ ⟨#[97, 99, 116, 105, 111, 110]⟩ = some false := by decide +kernel
  have e7 : risk_Sink.f ⟨#[105, 102, 114, 97, 109, 101]⟩ ⟨#[115, 114, 99, 100, 111, 99]⟩ = some 1 := by decide +kernel
  have e8 : risk_Sink.f ⟨#[115, 99, 114, 105, 112, 116]⟩ ⟨#[115, 114, 99]⟩ = some 3 := by decide +kernel
  have e9 : risk_Sink.f ⟨#[105, 109, 103]⟩ ⟨#[115, 114, 99]⟩ = some 0 := by decide +kernel
  have e10 : risk_Element.f ⟨#[115, 99, 114, 105, 112, 116]⟩ = some true := by decide +kernel
  have e11 : risk_Element.f ⟨#[98]⟩ = some false := by decide +kernel
  have e12 : risk_Safe.f (k + 4) [] = some true := by
    unfold risk_Safe.f
    simp only [risk_Safe.l0]
    rfl
  have e13 : risk_Safe.f (k + 4) [⟨0, 0, ⟨#[115, 99, 114, 105, 112, 116]⟩, ⟨#[]⟩, []⟩] = some false := by
    unfold risk_Safe.f
    simp only [risk_Safe.l0]
    rw [if_pos (by decide), if_pos (by decide), if_pos (by decide)]
    show (if (0 : Int) = 0 then _ else _) = _
    rw [if_pos rfl]
    show ((risk_Element.f ⟨#[115, 99, 114, 105, 112, 116]⟩).bind _) = _
    rw [e10]
    rfl
  unfold boltinglaw10_fixed.f
  rw [e1, e2, e3, e4, e5, e6, e7, e8, e9, e10, e11, e12, e13]
  rfl
end Go.Proofs.Ytejdfmghcgkojaa.Pure
