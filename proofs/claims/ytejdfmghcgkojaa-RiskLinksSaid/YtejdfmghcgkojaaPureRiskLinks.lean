/- RiskLinks of the document's chapter 10: it answers true whatever the input. -/
import Derived.Test.YtejdfmghcgkojaaRiskFixed
import Derived.Test.YtejdfmghcgkojaaPrx8
namespace Go.Proofs.Ytejdfmghcgkojaa.Pure
set_option linter.unusedVariables false
set_option linter.unusedSimpArgs false
open Go.RowKit Go.Proofs.Ytejdfmghcgkojaa.Pr Go.Proofs.YtejdfmghcgkojaaW.PrintWords Go.Proofs.YtejdfmghcgkojaaW.PrintLast
theorem runs_pre (l r : List UInt8) (h : l.contains 58 = true) : runs (l ++ r) = runs l := by
  unfold runs
  have hc : (l ++ r).contains 58 = true := by
    rw [List.contains_iff_mem] at h ⊢
    exact List.mem_append_left r h
  rw [scheme_pre, scheme_pre, pre_app h, hc, h]
theorem RiskLinks : boltinglaw10_RiskLinks.Pure := by
  intro a0 a1 a2 h0 h1 h2
  obtain ⟨p1, p2, p3⟩ := takeS a2 200 (by omega)
  refine ⟨20, ?_⟩
  unfold boltinglaw10_RiskLinks.f
  rw [if_pos p1, if_pos p2]
  obtain ⟨s, hs⟩ : ∃ s, a2.extract 0 (mn (a2.size : Int) 200).toNat = s := ⟨_, rfl⟩
  rw [hs] at p3 ⊢
  have s1 : (⟨#[106, 97, 118, 97, 115, 99, 114, 105, 112, 116, 58]⟩ : ByteArray).size = 11 := rfl
  have s2 : (⟨#[104, 116, 116, 112, 115, 58]⟩ : ByteArray).size = 6 := rfl
  rw [if_pos (by omega), attr_f _ _ _ (by rw [ByteArray.size_append, s1]; omega)]
  simp only [Option.bind_some]
  rw [if_pos (by omega), attr_f _ _ _ (by rw [ByteArray.size_append, s2]; omega), show risk_Sink.f a0 a1 = some (sinkF a0 a1) from rfl]
  simp only [Option.bind_some]
  have r1 : runs (dat ((⟨#[106, 97, 118, 97, 115, 99, 114, 105, 112, 116, 58]⟩ : ByteArray) ++ s)) = true := by
    rw [dat_app, runs_pre _ _ (by decide)]; decide +kernel
  have r2 : runs (dat ((⟨#[104, 116, 116, 112, 115, 58]⟩ : ByteArray) ++ s)) = false := by
    rw [dat_app, runs_pre _ _ (by decide)]; decide +kernel
  unfold attrB
  rw [r1, r2, fixed_f (by omega), show risk_Nav.f a0 a1 = some (navB a0 a1) from rfl]
  simp only [Option.bind_some, Bool.and_true, Bool.and_false, Bool.or_false]
  by_cases h : sinkF a0 a1 = 0
  · rw [if_pos h, h]
    simp
  · rw [if_neg h]
    simp [h]
end Go.Proofs.Ytejdfmghcgkojaa.Pure
