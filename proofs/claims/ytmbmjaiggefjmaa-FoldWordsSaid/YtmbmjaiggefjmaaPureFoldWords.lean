/- FoldWords of the document's chapter 02: it answers true whatever the input. -/
import Derived.Test.YtmbmjaiggefjmaaFoldRef
import Derived.Test.YtmbmjaiggefjmaaRefWords2
import Derived.Test.YtmbmjaiggefjmaaPrx7
namespace Go.Proofs.Ytmbmjaiggefjmaa
set_option linter.unusedVariables false
set_option linter.unusedSimpArgs false
open Go.RowKit Go.Proofs.Ytmbmjaiggefjmaa.Pr Go.Proofs.Ytmbmjaiggefjmaa.Pure Go.Proofs.YtmbmjaiggefjmaaW.PrintWords Go.Proofs.YtmbmjaiggefjmaaW.PrintLast
theorem rtrim_l1 (s : ByteArray) (hs : s.size ≤ 1000000) (fr : Nat) : ∀ (d en : Nat), en = fr + d → en ≤ s.size → ∀ k, d < k →
    boltingref02_Trim.l1 k s (fr : Int) (en : Int) = some (mkS (rcut space (((dat s).drop fr).take d)))
  | 0, en, h, ht, k, hk => by
    obtain ⟨k, rfl⟩ : ∃ m, k = m + 1 := ⟨k - 1, by omega⟩
    simp only [boltingref02_Trim.l1]
    rw [if_neg (by omega), if_pos (by omega), if_pos (by omega), if_pos (by omega), extract_mid]
    rw [show ((en : Int).toNat - (fr : Int).toNat) = 0 by omega]
    rfl
  | d + 1, en, h, ht, k, hk => by
    obtain ⟨k, rfl⟩ : ∃ m, k = m + 1 := ⟨k - 1, by omega⟩
    obtain ⟨en, rfl⟩ : ∃ j, en = j + 1 := ⟨en - 1, by omega⟩
    obtain ⟨c, hc⟩ := at_some s (show en < s.size by omega)
    have hcd : ((dat s).drop fr)[d]? = some c := by
      rw [List.getElem?_drop, show fr + d = en by omega]; exact hc
    simp only [boltingref02_Trim.l1]
    rw [show (((en + 1 : Nat) : Int) - 1) = (en : Int) by omega, wrap_id (by omega) (by omega), if_pos (by omega), if_pos (by omega), if_pos (by omega), bt_c hc, ref_space, take_at hcd, rcut_append_one]
    simp only [Option.bind_some]
    by_cases hsp : space c = true
    · rw [if_pos (show spaceI (c.toNat : Int) = true from hsp), if_pos hsp]
      exact rtrim_l1 s hs fr d en (by omega) (by omega) k (by omega)
    · rw [if_neg (show ¬ spaceI (c.toNat : Int) = true from hsp), if_neg hsp, if_pos (by omega), if_pos (by omega), if_pos (by omega), extract_mid, Int.toNat_natCast, Int.toNat_natCast, ← take_at hcd]
      rw [show en + 1 - fr = d + 1 by omega]
theorem rtrim_l0 (s : ByteArray) (hs : s.size ≤ 1000000) : ∀ (d fr : Nat), fr + d = s.size → ∀ k, 2 * d + 2 < k →
    boltingref02_Trim.l0 k s (fr : Int) (s.size : Int) = some (mkS (trim ((dat s).drop fr)))
  | 0, fr, h, k, hk => by
    obtain ⟨k, rfl⟩ : ∃ m, k = m + 2 := ⟨k - 2, by omega⟩
    simp only [boltingref02_Trim.l0, boltingref02_Trim.j1]
    rw [if_neg (by omega)]
    have := rtrim_l1 s hs fr 0 s.size (by omega) (by omega) k (by omega)
    rw [this, List.drop_of_length_le (show (dat s).length ≤ fr by rw [← Lib.size_eq]; omega)]
    rfl
  | d + 1, fr, h, k, hk => by
    obtain ⟨k, rfl⟩ : ∃ m, k = m + 1 := ⟨k - 1, by omega⟩
    obtain ⟨c, hc⟩ := at_some s (show fr < s.size by omega)
    have hd : (dat s).drop fr = c :: (dat s).drop (fr + 1) := drop_one hc
    simp only [boltingref02_Trim.l0]
    rw [if_pos (by omega), if_pos (by omega), if_pos (by omega), bt_c hc, ref_space, wrap_succ (by omega) (by omega)]
    simp only [Option.bind_some]
    by_cases hsp : space c = true
    · rw [if_pos (show spaceI (c.toNat : Int) = true from hsp)]
      have := rtrim_l0 s hs d (fr + 1) (by omega) k (by omega)
      rw [show ((fr : Int) + 1) = ((fr + 1 : Nat) : Int) by omega, this, hd]
      unfold trim
      rw [List.dropWhile_cons, if_pos hsp]
    · rw [if_neg (show ¬ spaceI (c.toNat : Int) = true from hsp)]
      obtain ⟨k, rfl⟩ : ∃ m, k = m + 1 := ⟨k - 1, by omega⟩
      simp only [boltingref02_Trim.j1]
      have := rtrim_l1 s hs fr (d + 1) s.size (by omega) (by omega) k (by omega)
      rw [this, List.take_of_length_le (by rw [List.length_drop, ← Lib.size_eq]; omega)]
      unfold trim
      rw [hd, List.dropWhile_cons, if_neg hsp]
theorem rtrim_f (s : ByteArray) (hs : s.size ≤ 1000000) {k : Nat} (hk : 2 * s.size + 2 < k) : boltingref02_Trim.f k s = some (mkS (trim (dat s))) := by
  have := rtrim_l0 s hs s.size 0 (by omega) k hk
  rw [List.drop_zero] at this
  exact this
theorem fwords_l1 (s : ByteArray) (turn : Nat) (ht : turn < 2) (R : Nat → Prop) (hR : ∀ k, R k → boltinglaw02_FoldWords.l0 k s ((turn + 1 : Nat) : Int) = some true) : ∀ (d i : Nat) (m : List ByteArray), i + d = m.length → m.length ≤ 100000 → ∀ k, d < k → R (k - d - 1) → boltinglaw02_FoldWords.l1 k s (turn : Int) m (i : Int) = some true
  | 0, i, m, h, hm, k, hk, hr => by
    obtain ⟨k, rfl⟩ : ∃ m, k = m + 1 := ⟨k - 1, by omega⟩
    simp only [boltinglaw02_FoldWords.l1]
    rw [if_neg (by omega), wrap_succ (by omega) (by omega)]
    exact hR k hr
  | d + 1, i, m, h, hm, k, hk, hr => by
    obtain ⟨k, rfl⟩ : ∃ m, k = m + 1 := ⟨k - 1, by omega⟩
    simp only [boltinglaw02_FoldWords.l1]
    rw [if_pos (by omega), if_pos (by omega), wrap_succ (i := (i : Int)) (by omega) (by omega)]
    exact fwords_l1 s turn ht R hR d (i + 1) _ (by rw [List.length_set]; omega) (by rw [List.length_set]; omega) k (by omega) (by rw [show k - d - 1 = k + 1 - (d + 1) - 1 by omega]; exact hr)
theorem fwords_end (s : ByteArray) (hs : s.size ≤ 1000) (k : Nat) (hk : 2100 < k) : boltinglaw02_FoldWords.l0 k s ((2 : Nat) : Int) = some true := by
  obtain ⟨k, rfl⟩ : ∃ m, k = m + 1 := ⟨k - 1, by omega⟩
  simp only [boltinglaw02_FoldWords.l0]
  rw [if_neg (by omega), fixed_f (by omega)]
  simp only [Option.bind_some, if_true]
  rw [trim_f s (by omega) (by omega), rtrim_f s (by omega) (by omega)]
  simp only [Option.bind_some, beq_self_eq_true]
theorem fwords_step (s : ByteArray) (hs : s.size ≤ 1000) (turn : Nat) (ht : turn < 2) (n : Nat) (hn : 2100 ≤ n) (next : ∀ k, n < k → boltinglaw02_FoldWords.l0 k s ((turn + 1 : Nat) : Int) = some true) (k : Nat) (hk : n + 1100 < k) : boltinglaw02_FoldWords.l0 k s (turn : Int) = some true := by
  obtain ⟨k, rfl⟩ : ∃ m, k = m + 1 := ⟨k - 1, by omega⟩
  have hwl := words_count (dat s)
  have hds : (dat s).length = s.size := (Lib.size_eq s).symm
  simp only [boltinglaw02_FoldWords.l0]
  rw [if_pos (by omega), words_f s (by omega), ref_words s (by omega) (by omega)]
  simp only [Option.bind_some]
  rw [equal_f _ (by rw [SS_len]; omega) (by rw [SS_len]; omega)]
  simp only [Option.bind_some, if_true]
  exact fwords_l1 s turn ht (fun k => n < k) next (SS (words (dat s))).length 0 _ (by omega) (by rw [SS_len]; omega) k (by rw [SS_len]; omega) (by rw [SS_len]; show n < _; omega)
theorem Pure.FoldWords : boltinglaw02_FoldWords.Pure := by
  intro a0 h0
  obtain ⟨p1, p2, p3⟩ := takeS a0 1000 (by omega)
  refine ⟨10000, ?_⟩
  unfold boltinglaw02_FoldWords.f
  rw [if_pos p1, if_pos p2]
  obtain ⟨s, hs⟩ : ∃ s, a0.extract 0 (mn (a0.size : Int) 1000).toNat = s := ⟨_, rfl⟩
  rw [hs] at p3 ⊢
  have hs' : s.size ≤ 1000 := by omega
  exact fwords_step s hs' 0 (by omega) 3300 (by omega) (fun k hk => fwords_step s hs' 1 (by omega) 2100 (by omega) (fun k hk => fwords_end s hs' k hk) k (by omega)) 10000 (by omega)
end Go.Proofs.Ytmbmjaiggefjmaa
