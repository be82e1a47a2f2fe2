/- An address without a : has no scheme, and runs nothing; one that begins with one neither; no condition. -/
import Derived.Test.YthnakndpdfgapaaLinkLaws
namespace Go.Proofs.Ythnakndpdfgapaa.Pure
set_option linter.unusedVariables false
set_option linter.unusedSimpArgs false
open Go.RowKit Go.Proofs.Ythnakndpdfgapaa.Pr Go.Proofs.YthnakndpdfgapaaW.PrintWords Go.Proofs.YthnakndpdfgapaaW.PrintLast

theorem none_l0 (X : ByteArray) (hX : X.size ≤ 1000000) : ∀ (d i : Nat), i + d = X.size → (X.data.toList.take i).contains 58 = false → ∀ k, d < k → boltinglaw09_LinkNone.l0 k X false (i : Int) = some true
  | 0, i, h, hc, k, hk => by
    obtain ⟨k, rfl⟩ : ∃ m, k = m + 1 := ⟨k - 1, by omega⟩
    simp only [boltinglaw09_LinkNone.l0]
    rw [List.take_of_length_le (by rw [← Lib.size_eq]; omega)] at hc
    have hs : scheme X.data.toList = none := by rw [scheme_pre, hc]; rfl
    have hj : script X.data.toList = false := by unfold script; rw [hs]; decide
    have ho : source X.data.toList = none := by unfold source; rw [hj]; rfl
    rw [if_neg (by omega), scheme_f X hX, source_f X hX, script_f X hX, fixed_true, hs, hj, ho]
    simp [mkS_toList]
  | d + 1, i, h, hc, k, hk => by
    obtain ⟨k, rfl⟩ : ∃ m, k = m + 1 := ⟨k - 1, by omega⟩
    obtain ⟨c, hcc⟩ := at_some X (show i < X.size by omega)
    simp only [boltinglaw09_LinkNone.l0]
    rw [if_pos (by omega), if_pos (by omega), bt_c hcc, wrap_succ (by omega) (by omega), fixed_true]
    by_cases h58 : (c.toNat : Int) = 58
    · rw [if_pos h58]; rfl
    · rw [if_neg h58]
      refine none_l0 X hX d (i + 1) (by omega) ?_ k (by omega)
      rw [take_succ' hcc, List.contains_append, hc]
      simp
      intro e
      subst e
      exact h58 rfl
theorem LinkNone : boltinglaw09_LinkNone.Pure := by
  intro a0 h0
  obtain ⟨h1, h2, h3⟩ := takeS a0 500 (by omega)
  obtain ⟨K, hK⟩ : ∃ K, 3000001 ≤ K := ⟨_, Nat.le_refl _⟩
  refine ⟨K, ?_⟩
  unfold boltinglaw09_LinkNone.f
  rw [if_pos h1, if_pos h2]
  generalize a0.extract 0 (mn (a0.size : Int) 500).toNat = X at h3 ⊢
  have hX : X.size ≤ 1000000 := by omega
  have hsz : ((⟨#[58]⟩ : ByteArray) ++ X).size = 1 + X.size := by rw [ByteArray.size_append]; rfl
  rw [if_pos (by omega), scheme_f _ (by omega)]
  have hs : scheme ((⟨#[58]⟩ : ByteArray) ++ X).data.toList = none := by
    rw [show ((⟨#[58]⟩ : ByteArray) ++ X).data.toList = 58 :: X.data.toList by simp]
    rw [scheme_pre]
    have : pre (58 :: X.data.toList) = [] := by unfold pre; rw [List.dropWhile_cons, if_neg (by rw [ws58]; simp)]; simp [bef]
    rw [this]
    simp [okName]
  rw [hs]
  simp only [Option.bind_some, Option.isSome_none]
  exact none_l0 X hX X.size 0 (by omega) (by simp) _ (by omega)
end Go.Proofs.Ythnakndpdfgapaa.Pure
