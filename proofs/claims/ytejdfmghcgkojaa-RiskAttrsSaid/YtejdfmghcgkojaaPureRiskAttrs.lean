/- RiskAttrs of the document's chapter 10: it answers true whatever the input. -/
import Derived.Test.YtejdfmghcgkojaaRiskFixed
import Derived.Test.YtejdfmghcgkojaaPrx6
namespace Go.Proofs.Ytejdfmghcgkojaa.Pure
set_option linter.unusedVariables false
set_option linter.unusedSimpArgs false
open Go.RowKit Go.Proofs.Ytejdfmghcgkojaa.Pr Go.Proofs.YtejdfmghcgkojaaW.PrintWords Go.Proofs.YtejdfmghcgkojaaW.PrintLast
theorem rattr_f (e n v : ByteArray) (he : e.size ≤ 140737488355328) (hn : n.size ≤ 140737488355328) (hv : v.size ≤ 1000000) {k : Nat} (hk : e.size + 4000000 < k) : boltingref10_Attr.f k e n v = some (attrB e n v) := by
  unfold boltingref10_Attr.f attrB
  rw [ref_scheme v hv k (by omega), rsink_f e n he hn (by omega), rnav_f e n he hn (by omega)]
  simp only [Option.bind_some]
  by_cases h : sinkF e n = 0
  · rw [if_pos h, h, mkS_toList]
    cases hb : navB e n with
    | true => rw [if_pos rfl]; simp [runs]
    | false => rw [if_neg (by simp)]; simp
  · rw [if_neg h]; simp [h]
theorem RiskAttrs (a0 a1_0 a1_1 : ByteArray) (h0 : a0.size ≤ 140737488351232) (h1 : a1_0.size ≤ 140737488351232) (h2 : a1_1.size ≤ 140737488351232) : ∃ k, boltinglaw10_RiskAttrs.f k a0 a1_0 a1_1 = some true := by
  obtain ⟨p1, p2, p3⟩ := takeS a1_1 1000 (by omega)
  obtain ⟨k, hk⟩ : ∃ k, a0.size + 5000000 ≤ k := ⟨_, Nat.le_refl _⟩
  refine ⟨k, ?_⟩
  unfold boltinglaw10_RiskAttrs.f
  rw [if_pos p1, if_pos p2, fixed_f (by omega)]
  simp only [Option.bind_some, if_true]
  rw [attr_f _ _ _ (by omega), rattr_f _ _ _ (by omega) (by omega) (by omega) (by omega)]
  simp only [Option.bind_some, beq_self_eq_true]
end Go.Proofs.Ytejdfmghcgkojaa.Pure
