/- Whether any address of at most 1000 bytes is one to be run, what is run then, and any bytes for their marks, is as the reference has it; no condition. -/
import Derived.Test.YthnakndpdfgapaaLinkLaws
namespace Go.Proofs.Ythnakndpdfgapaa.Pure
set_option linter.unusedVariables false
set_option linter.unusedSimpArgs false
open Go.RowKit Go.Proofs.Ythnakndpdfgapaa.Pr Go.Proofs.YthnakndpdfgapaaW.PrintWords Go.Proofs.YthnakndpdfgapaaW.PrintLast

theorem LinkSources : boltinglaw09_LinkSources.Pure := by
  intro a0 h0
  obtain ⟨h1, h2, h3⟩ := takeS a0 1000 (by omega)
  obtain ⟨K, hK⟩ : ∃ K, 3000001 ≤ K := ⟨_, Nat.le_refl _⟩
  refine ⟨K, ?_⟩
  unfold boltinglaw09_LinkSources.f
  rw [if_pos h1, if_pos h2]
  generalize a0.extract 0 (mn (a0.size : Int) 1000).toNat = X at h3 ⊢
  have hX : X.size ≤ 1000000 := by omega
  rw [source_f X hX, ref_source X hX _ (by omega), fixed_true, script_f X hX, percent_f X hX, ref_percent X hX _ (by omega)]
  have hs : (source X.data.toList).isSome = script X.data.toList := by unfold source; split <;> simp_all
  simp [hs]
end Go.Proofs.Ythnakndpdfgapaa.Pure
