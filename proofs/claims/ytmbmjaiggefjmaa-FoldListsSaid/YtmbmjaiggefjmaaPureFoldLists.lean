/- FoldLists of the document's chapter 02: it answers true whatever the input. -/
import Derived.Test.YtmbmjaiggefjmaaFoldRef2
import Derived.Test.YtmbmjaiggefjmaaPrx11
namespace Go.Proofs.Ytmbmjaiggefjmaa
set_option linter.unusedVariables false
set_option linter.unusedSimpArgs false
open Go.RowKit Go.Proofs.Ytmbmjaiggefjmaa.Pr Go.Proofs.Ytmbmjaiggefjmaa.Pure Go.Proofs.YtmbmjaiggefjmaaW.PrintWords Go.Proofs.YtmbmjaiggefjmaaW.PrintLast
theorem mn60 (n : Nat) : 0 ≤ mn (n : Int) 60 ∧ mn (n : Int) 60 ≤ (n : Int) ∧ mn (n : Int) 60 ≤ 60 := by
  unfold mn; split <;> omega
theorem lists_l1 (a : List ByteArray) (ha : a.length ≤ 60) : ∀ (d i : Nat) (m : List ByteArray), i + d = m.length → m.length ≤ 100000 → ∀ k, 200 + d < k → boltinglaw02_FoldLists.l1 k a a m (i : Int) = some true
  | 0, i, m, h, hm, k, hk => by
    obtain ⟨k, rfl⟩ : ∃ m, k = m + 1 := ⟨k - 1, by omega⟩
    simp only [boltinglaw02_FoldLists.l1]
    rw [if_neg (by omega), equal_f a (by omega) (by omega)]
    simp only [Option.bind_some, if_true]
    rw [fixed_f (by omega)]
    rfl
  | d + 1, i, m, h, hm, k, hk => by
    obtain ⟨k, rfl⟩ : ∃ m, k = m + 1 := ⟨k - 1, by omega⟩
    simp only [boltinglaw02_FoldLists.l1]
    rw [if_pos (by omega), if_pos (by omega), wrap_succ (by omega) (by omega)]
    exact lists_l1 a ha d (i + 1) _ (by rw [List.length_set]; omega) (by rw [List.length_set]; omega) k (by omega)
theorem lists_l0 (a m : List ByteArray) (ha : a.length ≤ 60) (hm : m.length ≤ 60) : ∀ (d i : Nat) (x : List ByteArray), i + d = x.length → x.length ≤ 100000 → ∀ k, 300 + d < k → boltinglaw02_FoldLists.l0 k a a x m (i : Int) = some true
  | 0, i, x, h, hx, k, hk => by
    obtain ⟨k, rfl⟩ : ∃ m, k = m + 1 := ⟨k - 1, by omega⟩
    simp only [boltinglaw02_FoldLists.l0]
    rw [if_neg (by omega)]
    exact lists_l1 a ha m.length 0 m (by omega) (by omega) k (by omega)
  | d + 1, i, x, h, hx, k, hk => by
    obtain ⟨k, rfl⟩ : ∃ m, k = m + 1 := ⟨k - 1, by omega⟩
    simp only [boltinglaw02_FoldLists.l0]
    rw [if_pos (by omega), if_pos (by omega), wrap_succ (by omega) (by omega)]
    exact lists_l0 a m ha hm d (i + 1) _ (by rw [List.length_set]; omega) (by rw [List.length_set]; omega) k (by omega)
theorem sorted_len (l : List (List UInt8)) : (sorted l).length ≤ l.length := by
  unfold sorted
  have := Lib.compact_length_le (l.mergeSort fun x y => decide (x ≤ y))
  rw [List.length_mergeSort] at this
  exact this
theorem mul60 {n : Nat} (h : n ≤ 60) : (n + 1) * (n + 2) ≤ 61 * 62 := Nat.mul_le_mul (by omega) (by omega)
theorem Pure.FoldLists (l0 l1 : List ByteArray) (a2 : ByteArray) (h2 : a2.size ≤ 140737488351232) : ∃ k, boltinglaw02_FoldLists.f k l0 l1 a2 = some true := by
  obtain ⟨p1, p2, p3⟩ := mn60 l0.length
  obtain ⟨q1, q2, q3⟩ := mn60 l1.length
  refine ⟨5000, ?_⟩
  unfold boltinglaw02_FoldLists.f
  rw [if_pos p1, if_pos p2]
  simp only [Option.bind_some]
  rw [if_pos q1, if_pos q2]
  obtain ⟨a, ea⟩ : ∃ l, l0.take (mn (l0.length : Int) 60).toNat = l := ⟨_, rfl⟩
  obtain ⟨b, eb⟩ : ∃ l, l1.take (mn (l1.length : Int) 60).toNat = l := ⟨_, rfl⟩
  have ha : a.length ≤ 60 := by rw [← ea, List.length_take]; omega
  have hb : b.length ≤ 60 := by rw [← eb, List.length_take]; omega
  rw [ea, eb]
  simp only [Option.bind_some, List.nil_append, List.length_nil, Nat.zero_add]
  have hm := minus_len a b
  have hsl : (sorted (a.map dat)).length ≤ 60 := by
    have := sorted_len (a.map dat)
    rw [List.length_map] at this
    omega
  have hk := mul60 ha
  rw [if_pos (by omega), sorted_f a (by omega), minus_f a b (by omega) (by omega) (by omega), rsorted_f a (by omega) (by omega)]
  simp only [Option.bind_some]
  rw [equal_f _ (by rw [SS_len]; omega) (by rw [SS_len]; omega)]
  simp only [Option.bind_some, if_true]
  rw [rminus_f a b (by omega) (by omega) (by omega)]
  simp only [Option.bind_some]
  rw [equal_f _ (by omega) (by omega)]
  simp only [Option.bind_some, Bool.not_true]
  have j1 : ∀ k, 4000 < k → boltinglaw02_FoldLists.j1 k a a (SS (sorted (a.map dat))) (minus a b) false = some true := by
    intro k hk
    obtain ⟨k, rfl⟩ : ∃ m, k = m + 1 := ⟨k - 1, by omega⟩
    simp only [boltinglaw02_FoldLists.j1]
    rw [if_neg (by simp)]
    exact lists_l0 a _ ha (by omega) _ 0 _ (Nat.zero_add _) (by rw [SS_len]; omega) k (by rw [SS_len]; omega)
  have j0 : ∀ k, 4500 < k → boltinglaw02_FoldLists.j0 k a a2 a (SS (sorted (a.map dat))) (minus a b) false = some true := by
    intro k hk
    obtain ⟨k, rfl⟩ : ∃ m, k = m + 1 := ⟨k - 1, by omega⟩
    simp only [boltinglaw02_FoldLists.j0]
    rw [if_neg (by simp), rsorted_f a (by omega) (by omega)]
    simp only [Option.bind_some]
    rw [find_f (sorted_up _) (by omega) a2]
    simp only [Option.bind_some]
    rw [below_f (SS (sorted (a.map dat))) a2 (by rw [SS_len]; omega) (by rw [SS_len]; omega), SS_dat]
    simp only [Option.bind_some, if_true]
    rw [has_f a a2 (by omega) (by omega)]
    simp only [Option.bind_some]
    have e : decide (dat a2 ∈ sorted (a.map dat)) = mem a a2 := by
      rw [Bool.eq_iff_iff, decide_eq_true_eq, mem_iff, sorted_mem, List.mem_map]
      constructor
      · rintro ⟨y, hy, e⟩; rw [← dat_inj e]; exact hy
      · intro h; exact ⟨_, h, rfl⟩
    rw [e, bne_self_eq_false]
    exact j1 k (by omega)
  exact j0 5000 (by omega)
end Go.Proofs.Ytmbmjaiggefjmaa
