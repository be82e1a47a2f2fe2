/- RiskHandlers of the document's chapter 10: it answers true whatever the input. -/
import Derived.Test.YtejdfmghcgkojaaRiskFixed
import Derived.Test.YtejdfmghcgkojaaPrx7
namespace Go.Proofs.Ytejdfmghcgkojaa.Pure
set_option linter.unusedVariables false
set_option linter.unusedSimpArgs false
open Go.RowKit Go.Proofs.Ytejdfmghcgkojaa.Pr Go.Proofs.YtejdfmghcgkojaaW.PrintWords Go.Proofs.YtejdfmghcgkojaaW.PrintLast
theorem safe_alone (e v : ByteArray) (ats : List S30) {k : Nat} (h : mem unsafeL e = true) : risk_Safe.f (k + 4) [⟨0, 0, e, v, ats⟩] = some false := by
  unfold risk_Safe.f
  simp only [risk_Safe.l0]
  rw [if_pos (by show (0 : Int) < 1; decide), if_pos (by decide), if_pos (by show (0 : Int) < 1; decide)]
  show (if (0 : Int) = 0 then _ else _) = _
  rw [if_pos rfl]
  show ((risk_Element.f e).bind _) = _
  rw [element_f, h]
  rfl
theorem safe_handler (e v n x : ByteArray) (hx : x.size ≤ 140737488351232) {k : Nat} (h : attrB e n x = true) : risk_Safe.f (k + 4) [⟨0, 0, e, v, [⟨n, x⟩]⟩] = some false := by
  cases hm : mem unsafeL e with
  | true => exact safe_alone e v _ hm
  | false =>
    unfold risk_Safe.f
    simp only [risk_Safe.l0]
    rw [if_pos (by show (0 : Int) < 1; decide), if_pos (by decide), if_pos (by show (0 : Int) < 1; decide)]
    show (if (0 : Int) = 0 then _ else _) = _
    rw [if_pos rfl]
    show ((risk_Element.f e).bind _) = _
    rw [element_f, hm]
    simp only [Option.bind_some, Bool.false_eq_true, if_false]
    simp only [risk_Safe.l1]
    rw [if_pos (by show (0 : Int) < 1; decide), if_pos (by decide), if_pos (by show (0 : Int) < 1; decide)]
    show ((risk_Attr.f e n x).bind _) = _
    rw [attr_f e n x hx, h]
    rfl
theorem RiskHandlers : boltinglaw10_RiskHandlers.Pure := by
  intro a0 a1 a2 h0 h1 h2
  refine ⟨24, ?_⟩
  have s1 : (⟨#[111, 110]⟩ : ByteArray).size = 2 := rfl
  unfold boltinglaw10_RiskHandlers.f
  rw [if_pos (by omega), attr_f _ _ _ h2]
  simp only [Option.bind_some]
  have hon : attrB a0 ⟨#[111, 110]⟩ a2 = false := by
    have e1 : handlerB ⟨#[111, 110]⟩ = false := by decide +kernel
    have e2 : ∀ x, sinkI x ⟨#[111, 110]⟩ = 0 := by
      intro x
      unfold sinkI
      have : sinksL.find? (isAt x ⟨#[111, 110]⟩) = none := List.find?_eq_none.2 (fun q hq => by
        have h2 : q.att ≠ ⟨#[111, 110]⟩ := by
          simp only [sinksL, List.mem_cons, List.not_mem_nil, or_false] at hq
          rcases hq with rfl | rfl | rfl | rfl <;> decide
        unfold isAt
        simp [h2])
      rw [this]
    have e3 : ∀ x, navB x ⟨#[111, 110]⟩ = false := by
      intro x
      unfold navB
      refine List.any_eq_false.2 (fun q hq => ?_)
      have h2 : q.att ≠ ⟨#[111, 110]⟩ := by
        simp only [leadsL, List.mem_cons, List.not_mem_nil, or_false] at hq
        rcases hq with rfl | rfl | rfl | rfl | rfl | rfl | rfl | rfl | rfl <;> decide
      unfold isAt
      simp [h2]
    unfold attrB sinkF
    rw [e1, e2, e3]
    simp
  have tail : ((risk_Element.f a0).bind fun t => if t = true then ((risk_Safe.f 24 [⟨0, 0, a0, ⟨#[]⟩, []⟩]).bind fun u => if u = true then some false else ((boltinglaw10_fixed.f 24).bind fun z => some z)) else ((boltinglaw10_fixed.f 24).bind fun z => some z)) = some true := by
    rw [element_f, fixed_f (by omega)]
    simp only [Option.bind_some]
    cases hm : mem unsafeL a0 with
    | true =>
      rw [if_pos rfl, safe_alone (k := 20) a0 _ _ hm]
      rfl
    | false => rw [if_neg (by simp)]
  by_cases ha : a1.toList = ([] : List UInt8)
  · rw [if_pos ha]
    have e : (⟨#[111, 110]⟩ : ByteArray) ++ a1 = ⟨#[111, 110]⟩ := by
      apply dat_inj
      rw [dat_app]
      rw [toList_dat] at ha
      rw [ha, List.append_nil]
    rw [e, hon, attr_f _ _ _ h2, hon]
    simp only [Option.bind_some, beq_self_eq_true, if_true]
    exact tail
  · rw [if_neg ha]
    have hh : handlerB ((⟨#[111, 110]⟩ : ByteArray) ++ a1) = true := by
      unfold handlerB
      have hne : 0 < a1.size := by
        rw [toList_dat] at ha
        rcases Nat.eq_zero_or_pos a1.size with h | h
        · exact absurd (List.eq_nil_of_length_eq_zero (by rw [dat_len]; exact h)) ha
        · exact h
      rw [show ((⟨#[111, 110]⟩ : ByteArray) ++ a1).data.toList = [111, 110] ++ dat a1 from dat_app _ _, decide_eq_true (show 2 < ((⟨#[111, 110]⟩ : ByteArray) ++ a1).size by rw [ByteArray.size_append, s1]; omega), Bool.and_true]
      unfold Lib.hasPrefix
      rw [isPrefix_take]
      simp
    have hat : attrB a0 ((⟨#[111, 110]⟩ : ByteArray) ++ a1) a2 = true := by
      unfold attrB sinkF
      rw [hh]
      rfl
    rw [hat]
    simp only [beq_self_eq_true, if_true]
    rw [safe_handler (k := 20) a0 _ _ a2 h2 hat]
    simp only [Option.bind_some, Bool.false_eq_true, if_false]
    exact tail
end Go.Proofs.Ytejdfmghcgkojaa.Pure
