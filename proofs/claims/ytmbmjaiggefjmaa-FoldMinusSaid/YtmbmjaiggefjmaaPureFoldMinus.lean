/- FoldMinus of the document's chapter 02: it answers true whatever the input. -/
import Derived.Test.YtmbmjaiggefjmaaFoldRef2
import Derived.Test.YtmbmjaiggefjmaaPrx14
namespace Go.Proofs.Ytmbmjaiggefjmaa
set_option linter.unusedVariables false
set_option linter.unusedSimpArgs false
open Go.RowKit Go.Proofs.Ytmbmjaiggefjmaa.Pr Go.Proofs.Ytmbmjaiggefjmaa.Pure Go.Proofs.YtmbmjaiggefjmaaW.PrintWords Go.Proofs.YtmbmjaiggefjmaaW.PrintLast
theorem mn60 (n : Nat) : 0 ≤ mn (n : Int) 60 ∧ mn (n : Int) 60 ≤ (n : Int) ∧ mn (n : Int) 60 ≤ 60 := by
  unfold mn; split <;> omega
theorem minus_l (a b : List ByteArray) (ha : a.length ≤ 60) (hb : b.length ≤ 60) : ∀ (d i j : Nat), i + d = a.length → (minus a b).drop j = (a.drop i).filter (fun x => !mem b x) → j ≤ (minus a b).length → ∀ k, 200 + d < k →
    boltinglaw02_FoldMinus.l0 k a b (minus a b) (j : Int) (i : Int) = some true
  | 0, i, j, h, hj, hjl, k, hk => by
    obtain ⟨k, rfl⟩ : ∃ m, k = m + 1 := ⟨k - 1, by omega⟩
    have hle := minus_len a b
    simp only [boltinglaw02_FoldMinus.l0]
    rw [if_neg (by omega)]
    have e : j = (minus a b).length := by
      rw [List.drop_of_length_le (show a.length ≤ i by omega)] at hj
      have := congrArg List.length hj
      rw [List.length_drop] at this
      simp at this; omega
    have m1 : minus a [] = a := by unfold minus; exact List.filter_eq_self.2 (fun x _ => rfl)
    have m2 : minus a a = [] := by
      unfold minus
      exact List.filter_eq_nil_iff.2 (fun x hx => by rw [(mem_iff a x).2 hx]; simp)
    rw [if_pos (by omega), minus_f a [] (by omega) (by simp) (by simp; omega), m1]
    simp only [Option.bind_some]
    rw [equal_f a (by omega) (by omega)]
    simp only [Option.bind_some, if_true]
    rw [minus_f a a (by omega) (by omega) (by omega), m2]
    simp only [Option.bind_some, List.length_nil, Int.natCast_zero, if_true]
    rw [fixed_f (by omega)]
    rfl
  | d + 1, i, j, h, hj, hjl, k, hk => by
    obtain ⟨k, rfl⟩ : ∃ m, k = m + 1 := ⟨k - 1, by omega⟩
    have hle := minus_len a b
    obtain ⟨x, hx⟩ := get_some (show i < a.length by omega)
    simp only [boltinglaw02_FoldMinus.l0]
    rw [if_pos (by omega), if_pos (by omega), rd_at hx, has_f b x (by omega) (by omega), wrap_succ (i := (i : Int)) (by omega) (by omega)]
    simp only [Option.bind_some]
    rw [filter_step hx] at hj
    cases e : mem b x with
    | true =>
      rw [if_pos rfl]
      rw [e] at hj
      exact minus_l a b ha hb d (i + 1) j (by omega) (by simpa using hj) hjl k (by omega)
    | false =>
      rw [e] at hj
      have hj' : (minus a b).drop j = x :: (a.drop (i + 1)).filter (fun x => !mem b x) := by simpa using hj
      have hlt : j < (minus a b).length := by
        rcases Nat.lt_or_ge j (minus a b).length with h | h
        · exact h
        · rw [List.drop_of_length_le h] at hj'; cases hj'
      have hxj : (minus a b)[j]? = some x := by
        have := congrArg (fun l => l[0]?) hj'
        simpa using this
      rw [if_neg (by simp), if_neg (by omega), if_pos (by omega), if_pos (by omega), rd_at hxj, if_pos rfl, wrap_succ (i := (j : Int)) (by omega) (by omega)]
      refine minus_l a b ha hb d (i + 1) (j + 1) (by omega) ?_ (by omega) k (by omega)
      have := congrArg (List.drop 1) hj'
      rw [List.drop_drop] at this
      simpa using this
theorem Pure.FoldMinus (l0 l1 : List ByteArray) : ∃ k, boltinglaw02_FoldMinus.f k l0 l1 = some true := by
  obtain ⟨p1, p2, p3⟩ := mn60 l0.length
  obtain ⟨q1, q2, q3⟩ := mn60 l1.length
  refine ⟨300, ?_⟩
  unfold boltinglaw02_FoldMinus.f
  rw [if_pos p1, if_pos p2]
  simp only [Option.bind_some]
  rw [if_pos q1, if_pos q2]
  have ha : (l0.take (mn (l0.length : Int) 60).toNat).length ≤ 60 := by rw [List.length_take]; omega
  have hb : (l1.take (mn (l1.length : Int) 60).toNat).length ≤ 60 := by rw [List.length_take]; omega
  rw [minus_f _ _ (by omega) (by omega) (by omega)]
  simp only [Option.bind_some]
  exact minus_l _ _ ha hb _ 0 0 (Nat.zero_add _) (by rw [List.drop_zero, List.drop_zero]; rfl) (Nat.zero_le _) 300 (by omega)
end Go.Proofs.Ytmbmjaiggefjmaa
