/- FoldLetters of the document's chapter 02: it answers true whatever the input. -/
import Derived.Test.YtmbmjaiggefjmaaFoldRef
import Derived.Test.YtmbmjaiggefjmaaPrx5
namespace Go.Proofs.Ytmbmjaiggefjmaa
set_option linter.unusedVariables false
set_option linter.unusedSimpArgs false
open Go.RowKit Go.Proofs.Ytmbmjaiggefjmaa.Pr Go.Proofs.Ytmbmjaiggefjmaa.Pure
theorem rspace_f (c : Int) : boltingref02_Space.f c = some (spaceI c) := by
  unfold boltingref02_Space.f spaceI
  repeat' split
  all_goals
    refine congrArg some ?_
    rw [Bool.eq_iff_iff]
    simp only [Bool.or_eq_true, decide_eq_true_eq, Bool.false_eq_true, eq_self, true_iff, false_iff, beq_iff_eq]
    omega
theorem letters_eq (c : Int) : ∃ b, fold_Letter.f c = some b ∧ boltingref02_Letter.f c = some b := by
  unfold fold_Letter.f boltingref02_Letter.f
  repeat' split
  all_goals first | omega | exact ⟨_, rfl, rfl⟩ | (refine ⟨_, rfl, congrArg some ?_⟩; first | (exact decide_eq_true (by omega)) | (exact decide_eq_false (by omega)) | (exact (decide_eq_true (by omega)).symm) | (exact (decide_eq_false (by omega)).symm) | (rw [decide_eq_decide]; omega))
theorem Pure.FoldLetters : boltinglaw02_FoldLetters.Pure := by
  intro a0 a1 a2 h0 h1 h2
  obtain ⟨b, e1, e2⟩ := letters_eq a2
  refine ⟨20, ?_⟩
  unfold boltinglaw02_FoldLetters.f
  rw [fixed_f (by omega)]
  simp only [Option.bind_some, if_true]
  rw [lower_f a0 h0, rlower_f a0 h0, rlower_f a1 h1, same_f a0 a1 h0 h1, space_f, rspace_f, e1, e2]
  simp only [Option.bind_some, mkS_toList, beq_self_eq_true, if_true]
end Go.Proofs.Ytmbmjaiggefjmaa
