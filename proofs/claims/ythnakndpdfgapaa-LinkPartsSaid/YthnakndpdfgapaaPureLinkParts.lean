/- What stands behind a scheme makes no difference to it; nor does what stands ahead of an address without a letter to begin with; no condition. -/
import Derived.Test.YthnakndpdfgapaaLinkLaws
namespace Go.Proofs.Ythnakndpdfgapaa.Pure
set_option linter.unusedVariables false
set_option linter.unusedSimpArgs false
open Go.RowKit Go.Proofs.Ythnakndpdfgapaa.Pr Go.Proofs.YthnakndpdfgapaaW.PrintWords Go.Proofs.YthnakndpdfgapaaW.PrintLast

theorem LinkParts : boltinglaw09_LinkParts.Pure := by
  intro a0 a1 h0 h0'
  obtain ⟨h1, h2, h3⟩ := takeS a0 200 (by omega)
  obtain ⟨g1, g2, g3⟩ := takeS a1 200 (by omega)
  unfold boltinglaw09_LinkParts.f
  rw [if_pos h1, if_pos h2, if_pos g1, if_pos g2]
  generalize a0.extract 0 (mn (a0.size : Int) 200).toNat = X at h3 ⊢
  generalize a1.extract 0 (mn (a1.size : Int) 200).toNat = Y at g3 ⊢
  have s1 : (X ++ Y).size = X.size + Y.size := ByteArray.size_append
  have s2 : ((⟨#[47]⟩ : ByteArray) ++ X).size = 1 + X.size := by rw [ByteArray.size_append]; rfl
  rw [scheme_f X (by omega)]
  simp only [Option.bind_some]
  rw [if_pos (by omega), scheme_f (X ++ Y) (by omega)]
  simp only [Option.bind_some]
  rw [if_pos (by omega), scheme_f _ (by omega), fixed_true]
  have hs : scheme ((⟨#[47]⟩ : ByteArray) ++ X).data.toList = none := by
    rw [show ((⟨#[47]⟩ : ByteArray) ++ X).data.toList = 47 :: X.data.toList by simp]
    rw [scheme_pre]
    have : pre (47 :: X.data.toList) = 47 :: (bef 58 X.data.toList).filter keep := by
      unfold pre
      rw [List.dropWhile_cons, if_neg (by decide)]
      unfold bef
      rw [List.takeWhile_cons, if_pos (by decide), List.filter_cons, if_pos (by decide)]
    rw [this]
    have : okName (47 :: (bef 58 X.data.toList).filter keep) = false := by
      show (letter 47 && (47 :: (bef 58 X.data.toList).filter keep).all inScheme) = false
      rw [show letter 47 = false by decide]; rfl
    rw [this]
    simp
  have hxy : ∀ a, scheme X.data.toList = some a → scheme (X ++ Y).data.toList = some a := by
    intro a h
    rw [show (X ++ Y).data.toList = X.data.toList ++ Y.data.toList by simp]
    rw [scheme_pre] at h ⊢
    cases hc : X.data.toList.contains 58 with
    | false => rw [hc] at h; simp at h
    | true =>
      rw [hc] at h
      rw [pre_app hc, List.contains_append, hc]
      exact h
  rw [hs]
  cases hx : scheme X.data.toList with
  | none => simp [mkS_toList]
  | some a =>
    rw [hxy a hx]
    simp [mkS_toList]
end Go.Proofs.Ythnakndpdfgapaa.Pure
