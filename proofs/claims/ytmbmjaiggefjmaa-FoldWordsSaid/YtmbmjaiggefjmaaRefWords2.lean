/- What the reference's words come to: plain Lean. -/
import Derived.Test.YtmbmjaiggefjmaaFoldWords
import Derived.Test.YtmbmjaiggefjmaaPrx6
namespace Go.Proofs.Ytmbmjaiggefjmaa.Pure
set_option linter.unusedVariables false
set_option linter.unusedSimpArgs false
open Go.RowKit Go.Proofs.Ytmbmjaiggefjmaa.Pr Go.Proofs.YtmbmjaiggefjmaaW.PrintWords Go.Proofs.YtmbmjaiggefjmaaW.PrintLast

theorem ref_space (c : Int) : boltingref02_Space.f c = some (spaceI c) := by
  unfold boltingref02_Space.f spaceI
  repeat' split
  all_goals
    refine congrArg some ?_
    rw [Bool.eq_iff_iff]
    simp only [Bool.or_eq_true, decide_eq_true_eq, Bool.false_eq_true, eq_self, true_iff, false_iff, beq_iff_eq]
    omega
theorem ref_words_l0 (s : ByteArray) (hs : s.size ≤ 1000000) : ∀ (d i : Nat) (acc : List (List UInt8)) (w : List UInt8), i + d = s.size → acc.length ≤ i → w.length ≤ i → ∀ k, d < k →
    boltingref02_Words.l0 k s (SS acc) (mkS w) (i : Int) = some (SS (acc ++ fieldsAux space (s.data.toList.drop i) w))
  | 0, i, acc, w, h, ha, hw, k, hk => by
    obtain ⟨k, rfl⟩ : ∃ m, k = m + 1 := ⟨k - 1, by omega⟩
    simp only [boltingref02_Words.l0]
    rw [if_neg (by omega), List.drop_of_length_le (by rw [← Lib.size_eq]; omega), mkS_toList]
    unfold fieldsAux
    by_cases e : w = []
    · rw [if_pos e, if_pos e]; simp
    · rw [if_neg e, if_neg e, if_pos (by rw [SS_len]; omega), SS_snoc]
  | d + 1, i, acc, w, h, ha, hw, k, hk => by
    obtain ⟨k, rfl⟩ : ∃ m, k = m + 1 := ⟨k - 1, by omega⟩
    obtain ⟨c, hc⟩ := at_some s (show i < s.size by omega)
    simp only [boltingref02_Words.l0]
    rw [if_pos (by omega), if_pos (by omega), bt_c hc, ref_space, wrap_succ (by omega) (by omega), drop_one hc]
    simp only [Option.bind_some]
    have hext : s.extract (i : Int).toNat ((i : Int) + 1).toNat = mkS [c] := by
      rw [show (i : Int).toNat = i by omega, show ((i : Int) + 1).toNat = i + 1 by omega]
      exact extract_one hc
    rw [hext, mkS_toList, mkS_size, mkS_size, mkS_app]
    show _ = some (SS (acc ++ (if space c then _ else _)))
    by_cases hsp : spaceI c.toNat = true
    · have hsp' : space c = true := hsp
      rw [if_pos hsp, if_pos hsp']
      by_cases e : w = []
      · rw [if_pos e, if_pos e]
        subst e
        exact ref_words_l0 s hs d (i + 1) acc [] (by omega) (by omega) (by simp) k (by omega)
      · rw [if_neg e, if_neg e, if_pos (by rw [SS_len]; omega), SS_snoc]
        have := ref_words_l0 s hs d (i + 1) (acc ++ [w]) [] (by omega) (by simp; omega) (by simp) k (by omega)
        rw [List.append_assoc] at this
        exact this
    · have hsp' : ¬ space c = true := hsp
      rw [if_neg hsp, if_neg hsp', if_pos (by omega), if_pos (by omega), if_pos (by simp; omega)]
      exact ref_words_l0 s hs d (i + 1) acc (w ++ [c]) (by omega) (by omega) (by simp; omega) k (by omega)
theorem ref_words (s : ByteArray) (hs : s.size ≤ 1000000) {k : Nat} (hk : s.size < k) : boltingref02_Words.f k s = some (SS (words s.data.toList)) :=
  ref_words_l0 s hs s.size 0 [] [] (by omega) (by simp) (by simp) k hk
end Go.Proofs.Ytmbmjaiggefjmaa.Pure
