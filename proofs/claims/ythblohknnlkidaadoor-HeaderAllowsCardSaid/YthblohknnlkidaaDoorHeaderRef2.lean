/- What the reference's May, Has, Allows of layer 15 come to: plain Lean. -/
import Derived.Test.YthblohknnlkidaaDoorHeaderLaws
import Derived.Test.YthblohknnlkidaaDoorPrx6
namespace Go.Proofs.YthblohknnlkidaaDoor.Pure
set_option linter.unusedVariables false
set_option linter.unusedSimpArgs false
open Go.RowKit Go.Proofs.YthblohknnlkidaaDoor.Pr Go.Proofs.YthblohknnlkidaaDoorW.PrintWords Go.Proofs.YthblohknnlkidaaDoorW.PrintLast

theorem ref_letter (c : Int) : boltingref02_Letter.f c = some (letterI c) := by
  unfold boltingref02_Letter.f letterI
  repeat' split
  all_goals
    refine congrArg some ?_
    rw [Bool.eq_iff_iff]
    simp only [Bool.or_eq_true, decide_eq_true_eq, Bool.false_eq_true, eq_self, true_iff, false_iff]
    omega
theorem u8_eq {a b : UInt8} : a = b ↔ (a.toNat : Int) = (b.toNat : Int) := by
  constructor
  · rintro rfl; rfl
  · intro h; exact UInt8.toNat_inj.1 (by omega)
theorem mayC_iff (c : UInt8) : mayC c = true ↔ (letterI c.toNat = true ∨ (48 ≤ (c.toNat : Int) ∧ (c.toNat : Int) ≤ 57) ∨ (c.toNat : Int) = 45 ∨ (c.toNat : Int) = 35 ∨ (c.toNat : Int) = 61 ∨ (c.toNat : Int) = 95 ∨ (c.toNat : Int) = 47 ∨ (c.toNat : Int) = 64 ∨ (c.toNat : Int) = 46 ∨ (c.toNat : Int) = 37) := by
  unfold mayC
  rw [Bool.or_eq_true, Bool.or_eq_true, Bool.and_eq_true, decide_eq_true_eq, decide_eq_true_eq, List.contains_eq_mem, decide_eq_true_eq]
  simp only [List.mem_cons, List.not_mem_nil, or_false, u8_eq]
  rw [or_assoc]
  refine or_congr Iff.rfl (or_congr (by omega) ?_)
  exact Iff.rfl
set_option maxHeartbeats 1000000 in
theorem ref_may_l0 (s : ByteArray) (hs : s.size ≤ 200000000000000) : ∀ (d i : Nat), i + d = s.size → (s.data.toList.take i).all mayC = true → ∀ k, d < k →
    boltingref15_May.l0 k s (i : Int) = some (mayL s.data.toList)
  | 0, i, h, hf, k, hk => by
    obtain ⟨k, rfl⟩ : ∃ m, k = m + 1 := ⟨k - 1, by omega⟩
    simp only [boltingref15_May.l0]
    rw [List.take_of_length_le (by rw [← Lib.size_eq]; omega)] at hf
    rw [if_neg (by omega)]
    unfold mayL
    rw [hf, Lib.size_eq]
    cases s.data.toList <;> simp
  | d + 1, i, h, hf, k, hk => by
    obtain ⟨k, rfl⟩ : ∃ m, k = m + 1 := ⟨k - 1, by omega⟩
    obtain ⟨c, hc⟩ := at_some s (show i < s.size by omega)
    have hno : ¬ mayC c = true → some false = some (mayL s.data.toList) := by
      intro hm
      refine congrArg some (Eq.symm ?_)
      unfold mayL
      rw [Bool.and_eq_false_iff]
      left
      rw [Bool.eq_false_iff]
      intro ha
      exact hm (List.all_eq_true.1 ha c (List.mem_iff_getElem?.2 ⟨i, hc⟩))
    have hgo : mayC c = true → boltingref15_May.l0 k s ((i : Int) + 1) = some (mayL s.data.toList) := by
      intro hm
      refine ref_may_l0 s hs d (i + 1) (by omega) ?_ k (by omega)
      rw [take_snoc hc, List.all_append, hf]
      simp [hm]
    simp only [boltingref15_May.l0]
    rw [if_pos (by omega), if_pos (by omega), bt_c hc, ref_letter, wrap_succ (by omega) (by omega)]
    simp only [Option.bind_some]
    rw [mayC_iff] at hno hgo
    generalize letterI (c.toNat : Int) = L at hno hgo ⊢
    generalize (c.toNat : Int) = z at hno hgo ⊢
    cases L
    · simp only [Bool.false_eq_true, if_false, false_or] at hno hgo ⊢
      repeat' split
      all_goals first
        | exact hgo (by omega)
        | exact hno (by omega)
    · simp only [if_true, true_or, forall_const] at hgo ⊢
      repeat' split
      all_goals exact hgo
theorem ref_may (s : ByteArray) (hs : s.size ≤ 200000000000000) {k : Nat} (hk : s.size < k) : boltingref15_May.f k s = some (mayL s.data.toList) :=
  ref_may_l0 s hs s.size 0 (by omega) (by simp) k hk
theorem ref_has_l0 (l : List (List UInt8)) (n : ByteArray) (hl : l.length ≤ 100000) : ∀ (d i : Nat), i + d = l.length → n.data.toList ∉ l.take i → ∀ k, d < k → boltingref02_Has.l0 k (SS l) n (i : Int) = some (l.contains n.data.toList)
  | 0, i, h, hf, k, hk => by
    obtain ⟨k, rfl⟩ : ∃ m, k = m + 1 := ⟨k - 1, by omega⟩
    simp only [boltingref02_Has.l0]
    rw [List.take_of_length_le (by omega)] at hf
    rw [if_neg (by rw [SS_len]; omega), List.contains_eq_mem, decide_eq_false hf]
  | d + 1, i, h, hf, k, hk => by
    obtain ⟨k, rfl⟩ : ∃ m, k = m + 1 := ⟨k - 1, by omega⟩
    obtain ⟨x, hx⟩ := get_some (show i < l.length by omega)
    have hxm : x ∈ l := List.mem_iff_getElem?.2 ⟨i, hx⟩
    simp only [boltingref02_Has.l0]
    rw [if_pos (by rw [SS_len]; omega), if_pos (by omega), SS_at hx, mkS_toList, Lib.toList_data, wrap_succ (by omega) (by omega)]
    by_cases e : x = n.data.toList
    · rw [if_pos e, List.contains_eq_mem, decide_eq_true (by rw [← e]; exact hxm)]
    · rw [if_neg e]
      refine ref_has_l0 l n hl d (i + 1) (by omega) ?_ k (by omega)
      rw [take_at hx, List.mem_append, List.mem_singleton]
      rintro (h | h)
      · exact hf h
      · exact e h.symm
theorem ref_has (l : List (List UInt8)) (n : ByteArray) (hl : l.length ≤ 100000) {k : Nat} (hk : 100001 ≤ k) : boltingref02_Has.f k (SS l) n = some (l.contains n.data.toList) :=
  ref_has_l0 l n hl l.length 0 (by omega) (by simp) k (by omega)
theorem ref_allows (o r : Bool) (L : List (List UInt8)) (any twice : Bool) (n : ByteArray) (had : Int) (hL : L.length ≤ 100000) (hn : n.size ≤ 140737488351232) {k : Nat} (hk : 100001 ≤ k) (hk2 : n.size < k) :
    boltingref15_Allows.f k o r (SS L) any twice n had = some (mayL n.data.toList && (any || L.contains n.data.toList) && (decide (had ≤ 0) || twice)) := by
  unfold boltingref15_Allows.f
  rw [ref_may n (by omega) hk2, ref_has L n hL hk]
  simp only [Option.bind_some]
  cases mayL n.data.toList <;> cases any <;> cases L.contains n.data.toList <;> cases twice <;> by_cases h : had ≤ 0 <;> simp [h]
end Go.Proofs.YthblohknnlkidaaDoor.Pure
