/- What is stripped stays, and has none of what does not count; text without % stays by Percent; no condition. -/
import Derived.Test.YthnakndpdfgapaaLinkLaws
namespace Go.Proofs.Ythnakndpdfgapaa.Pure
set_option linter.unusedVariables false
set_option linter.unusedSimpArgs false
open Go.RowKit Go.Proofs.Ythnakndpdfgapaa.Pr Go.Proofs.YthnakndpdfgapaaW.PrintWords Go.Proofs.YthnakndpdfgapaaW.PrintLast

theorem again_end (X : ByteArray) (hX : X.size ≤ 1000000) (b : Bool) (hb : b = true → ∀ c ∈ X.data.toList, c.toNat ≠ 37) (k : Nat) (i : Int) (hi : ¬ i < ((mkS (strip X.data.toList)).size : Int)) :
    boltinglaw09_LinkAgain.l1 (k + 1) X (mkS (strip X.data.toList)) b i = some true := by
  simp only [boltinglaw09_LinkAgain.l1]
  have hst := strip_le X.data.toList
  rw [← Lib.size_eq] at hst
  have hpl := percent_len X.data.toList
  rw [if_neg hi, strip_f _ (by rw [mkS_size]; omega), mkS_list, strip_again, percent_f X hX, fixed_true]
  simp only [Option.bind_some, if_true, mkS_toList, mkS_size]
  have hp : b = true → percent X.data.toList = X.data.toList := fun h => percent_plain _ (hb h)
  have hle : ((percent X.data.toList).length : Int) ≤ (X.size : Int) := by rw [Lib.size_eq]; omega
  have hend : (if b = true then (if percent X.data.toList = X.toList then (if ((percent X.data.toList).length : Int) ≤ (X.size : Int) then some true else some false) else some false) else (if ((percent X.data.toList).length : Int) ≤ (X.size : Int) then some true else some false)) = some true := by
    rw [if_pos hle]
    by_cases h : b = true
    · rw [if_pos h, if_pos (by rw [Lib.toList_data]; exact hp h)]
    · rw [if_neg h]
  rw [hend]
  rcases strip_form X.data.toList with h | ⟨⟨c, t, h1, h2⟩, ⟨t', d, h3, h4⟩⟩
  · rw [if_pos h]
  · have hc : ¬ c.toNat ≤ 32 := by simpa [ws] using h2
    have hd : ¬ d.toNat ≤ 32 := by simpa [ws] using h4
    have hlen : (strip X.data.toList).length = t'.length + 1 := by rw [h3]; simp
    have hb0 : bt (mkS (strip X.data.toList)) ((0 : Nat) : Int) = (c.toNat : Int) := bt_c (by rw [mkS_list, h1]; rfl)
    have hbl : bt (mkS (strip X.data.toList)) ((t'.length : Nat) : Int) = (d.toNat : Int) := bt_c (by rw [mkS_list, h3]; simp)
    have hw : wrap64 (((strip X.data.toList).length : Int) - 1) = ((t'.length : Nat) : Int) := by
      rw [hlen, show (((t'.length + 1 : Nat) : Int) - 1) = ((t'.length : Nat) : Int) by omega]
      exact wrap_id (by omega) (by omega)
    rw [if_neg (by rw [h1]; simp), if_pos (by omega), show ((0 : Int)) = ((0 : Nat) : Int) from rfl, hb0, if_pos (by omega), hw, if_pos (by omega), if_pos (by omega), hbl, if_pos (by omega)]
theorem again_l1 (X : ByteArray) (hX : X.size ≤ 1000000) (b : Bool) (hb : b = true → ∀ c ∈ X.data.toList, c.toNat ≠ 37) : ∀ (d i : Nat), i + d = (strip X.data.toList).length → ∀ k, d < k →
    boltinglaw09_LinkAgain.l1 k X (mkS (strip X.data.toList)) b (i : Int) = some true
  | 0, i, h, k, hk => by
    obtain ⟨k, rfl⟩ : ∃ m, k = m + 1 := ⟨k - 1, by omega⟩
    exact again_end X hX b hb k i (by rw [mkS_size]; omega)
  | d + 1, i, h, k, hk => by
    obtain ⟨k, rfl⟩ : ∃ m, k = m + 1 := ⟨k - 1, by omega⟩
    have hst := strip_le X.data.toList
    rw [← Lib.size_eq] at hst
    obtain ⟨c, hc⟩ : ∃ c, (strip X.data.toList)[i]? = some c := ⟨_, List.getElem?_eq_getElem (by omega)⟩
    have hk2 := strip_keep X.data.toList c (List.mem_of_getElem? hc)
    unfold keep at hk2
    simp only [Bool.and_eq_true, bne_iff_ne, ne_eq] at hk2
    simp only [boltinglaw09_LinkAgain.l1]
    rw [if_pos (by rw [mkS_size]; omega), if_pos (by omega), bt_c (s := mkS (strip X.data.toList)) (k := i) (c := c) hc, if_neg (by omega), if_neg (by omega), if_neg (by omega), wrap_succ (by omega) (by omega)]
    exact again_l1 X hX b hb d (i + 1) (by omega) k (by omega)
theorem again_l0 (X : ByteArray) (hX : X.size ≤ 1000000) : ∀ (d i : Nat) (b : Bool), i + d = X.size → (b = true → ∀ c ∈ X.data.toList.take i, c.toNat ≠ 37) → ∀ k, d + X.size + 2 < k →
    boltinglaw09_LinkAgain.l0 k X (mkS (strip X.data.toList)) b (i : Int) = some true
  | 0, i, b, h, hb, k, hk => by
    obtain ⟨k, rfl⟩ : ∃ m, k = m + 1 := ⟨k - 1, by omega⟩
    have hst := strip_le X.data.toList
    rw [← Lib.size_eq] at hst
    simp only [boltinglaw09_LinkAgain.l0]
    rw [if_neg (by omega)]
    rw [List.take_of_length_le (by rw [← Lib.size_eq]; omega)] at hb
    exact again_l1 X hX b hb (strip X.data.toList).length 0 (by omega) k (by omega)
  | d + 1, i, b, h, hb, k, hk => by
    obtain ⟨k, rfl⟩ : ∃ m, k = m + 1 := ⟨k - 1, by omega⟩
    obtain ⟨c, hc⟩ := at_some X (show i < X.size by omega)
    simp only [boltinglaw09_LinkAgain.l0]
    rw [if_pos (by omega), wrap_succ (by omega) (by omega)]
    by_cases hbt : b = true
    · rw [if_pos hbt, if_pos (by omega), bt_c hc]
      refine again_l0 X hX d (i + 1) _ (by omega) ?_ k (by omega)
      intro h37 e he
      rw [take_succ' hc] at he
      rcases List.mem_append.1 he with he | he
      · exact hb hbt e he
      · obtain rfl := List.mem_singleton.1 he
        rw [bne_iff_ne] at h37
        omega
    · rw [if_neg hbt]
      exact again_l0 X hX d (i + 1) false (by omega) (by simp) k (by omega)
theorem LinkAgain : boltinglaw09_LinkAgain.Pure := by
  intro a0 h0
  obtain ⟨h1, h2, h3⟩ := takeS a0 1000 (by omega)
  obtain ⟨K, hK⟩ : ∃ K, 3000001 ≤ K := ⟨_, Nat.le_refl _⟩
  refine ⟨K, ?_⟩
  unfold boltinglaw09_LinkAgain.f
  rw [if_pos h1, if_pos h2]
  generalize a0.extract 0 (mn (a0.size : Int) 1000).toNat = X at h3 ⊢
  have hX : X.size ≤ 1000000 := by omega
  rw [strip_f X hX]
  simp only [Option.bind_some]
  exact again_l0 X hX X.size 0 true (by omega) (by simp) _ (by omega)
end Go.Proofs.Ythnakndpdfgapaa.Pure
